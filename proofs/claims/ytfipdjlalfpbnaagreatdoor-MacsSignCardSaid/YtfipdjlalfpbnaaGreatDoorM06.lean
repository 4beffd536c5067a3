/-
  Walks and plain words (texts Tm8, Tm9, Kz, Wd, We, Wf, Wi0, Msg, Wj0, Wk, Wl0). No condition beyond those that each theorem states.
-/
import Derived.Defers
import Derived.Recover
import Derived.Test.YtfipdjlalfpbnaaGreatDoorChecked
import Derived.Laws.StructEq
import Derived.Lib.AppendStr
import Derived.Test.YtfipdjlalfpbnaaGreatDoorM01
import Derived.Test.YtfipdjlalfpbnaaGreatDoorM02
import Derived.Test.YtfipdjlalfpbnaaGreatDoorM04
import Derived.Test.YtfipdjlalfpbnaaGreatDoorM05
namespace Go.Proofs.YtfipdjlalfpbnaaGreatDoor
section
open Go.RowKit Go.Deep

theorem term_all (s : ByteArray) : ∀ f, TSaid s f := by
  intro f
  induction f using Nat.strongRecOn with
  | _ f ih =>
    cases f with
    | zero => intro w g p keep _ _ _ h; omega
    | succ f => exact read_any s f (rest_any s f fun f' h => ih f' (by omega))

theorem catch_idle (p q : Addr) (w : World) :
    CallsD Tryz.prog 130 #[.pointer (some p), .pointer (some q)] .returning w fun e u' w' => e = .returned (.tuple #[]) ∧ u' = .returning ∧ w' = w := by
  refine callsD_of_wpS Tryz.func130 rfl fun c₀ cs hu => ?_
  apply wpS_seq
  apply wpS_region
  simp [wpOpsS, go_sem, recoverD, hu, Tryz.ntmps130, Exit.thenS]
  apply wpS_seq
  apply wpS_region
  simp [wpOpsS, go_sem, Exit.thenS]
  refine wpS_cond (t := false) (by simp [Act.eval, Array.replicate]) ?_
  simp only [Bool.false_eq_true, if_false]
  refine wpS_of_wp (wp_skip ?_)
  cases c₀
  simp_all [bodyPostS, results, Tryz.results130]

theorem catch_panicking (B C : Nat) (u : TypeId) (pv a b c d x : Value) (tb : TypeId) (older : List PanicEntry) (w : World) (hB : Blk w B 145 #[a, b, c, d]) (hC : Blk w C tb #[x]) (hne : B ≠ C) :
    CallsD Tryz.prog 130 #[.pointer (some ⟨B, 0, none⟩), .pointer (some ⟨C, 0, none⟩)] (.panicking ({ v := .iface u pv, recovered := false } :: older)) w fun e u' w' =>
      e = .returned (.tuple #[]) ∧ u' = .panicking ({ v := .iface u pv, recovered := true } :: older) ∧ w' = (fin B 0 0 (.slice none 0 0) (.slice none 0 0) w).setCell ⟨C, 0, none⟩ (.bool false) := by
  have b0 := hB.cell 0
  have b1 := hB.cell 1
  have b2 := hB.cell 2
  have b3 := hB.cell 3
  have bf := hB.frozen
  have c0 := hC.cell 0
  have cf := hC.frozen 0
  simp at b0 b1 b2 b3 c0
  refine callsD_of_wpS Tryz.func130 rfl fun c₀ cs hu => ?_
  apply wpS_seq
  apply wpS_region
  simp [wpOpsS, go_sem, recoverD, hu, Tryz.ntmps130, Exit.thenS]
  apply wpS_seq
  apply wpS_region
  simp [wpOpsS, go_sem, Exit.thenS]
  refine wpS_cond (t := true) (by simp [Act.eval, Array.replicate]) ?_
  simp only [if_true]
  apply wpS_region
  simp [wpOpsS, go_sem, b0, b1, b2, b3, bf, c0, cf, bodyPostS, results, Tryz.results130]
  rfl

/-- A text as a term as a whole. -/
def parseV (s : ByteArray) : Option Nd :=
  if 65536 < s.size then none else
    match rd s (2 * s.size + 2) none 0 with
    | none => none
    | some (nd, q) => if q = s.size then some nd else none
def nd0 : Value := .agg #[.int .i64 0, .int .u64 0, .slice none 0 0, .slice none 0 0]
def ParsePost (r : Option Nd) (w : World) (e : Ending) (w' : World) : Prop :=
  match r with
  | none => e = .returned (.tuple #[nd0, .bool false]) ∧ Only [] w w'
  | some nd => ∃ bv pv, e = .returned (.tuple #[.agg #[.int .i64 nd.1, .int .u64 nd.2.1, bv, pv], .bool true]) ∧ Only [] w w' ∧
      (∀ N : List Nat, (∀ x ∈ N, x < w.heap.size) → Rd w' N bv (ints .u8 (byts nd.2.2.1))) ∧ (∀ N : List Nat, (∀ x ∈ N, x < w.heap.size) → Rd w' N pv (strs nd.2.2.2))
theorem parse_no {r : Option Nd} {w w' : World} (h : r = none) (ho : Only [] w w') : ParsePost r w (.returned (.tuple #[nd0, .bool false])) w' := by
  subst h; exact ⟨rfl, ho⟩

theorem parse_yes {r : Option Nd} {w w' : World} {k : Int} {n : Nat} {bs : List UInt8} {parts : List ByteArray} {bv pv : Value} (h : r = some (k, n, bs, parts)) (ho : Only [] w w')
    (hb : ∀ N : List Nat, (∀ x ∈ N, x < w.heap.size) → Rd w' N bv (ints .u8 (byts bs))) (hp : ∀ N : List Nat, (∀ x ∈ N, x < w.heap.size) → Rd w' N pv (strs parts)) :
    ParsePost r w (.returned (.tuple #[.agg #[.int .i64 k, .int .u64 n, bv, pv], .bool true])) w' := by
  subst h; exact ⟨_, _, rfl, ho, hb, hp⟩
def zs4 : Array Value := #[.int .i64 0, .int .u64 0, .slice none 0 0, .slice none 0 0]
set_option maxRecDepth 100000 in
set_option maxHeartbeats 3200000 in
theorem parse_any (w : World) (s : ByteArray) (hs : s.size ≤ maxLen) : Calls Tryz.prog 107 #[.string s] w (ParsePost (parseV s) w) := by
  unfold maxLen at hs
  have hmf : ∀ (fn : Fn) (first cap : Array Value) (w : World), (Instr.makeFunc fn first cap).run Tryz.prog w = .ok (.func fn first cap) w := fun _ _ _ _ => rfl
  by_cases hlt : 65536 < s.size
  · have hltI : (65536 : Int) < s.size := by omega
    have HR := hide (show parseV s = none by unfold parseV; rw [if_pos hlt])
    have HO := hide (((Only.refl [] w).alloc (.cells zs4 145)).alloc (.cells #[.bool false] 4))
    clear hlt
    go_enter_defers Tryz.func107, Tryz.ntmps107
    go_wp2_with fail
    simp [Leaves, results, Tryz.results107, go_sem, bodyPostD]
    exact parse_no HR.out HO.out
  · have hltI : ¬ (65536 : Int) < s.size := by omega
    have HT := hide (fun W h => term_all s (2 * s.size + 2) W (w.heap.size + 1 + 1) 0 true h (Nat.zero_le _) (by omega) (by omega))
    have HV := hide (show parseV s = match rd s (2 * s.size + 2) none 0 with | none => none | some (nd, q) => if q = s.size then some nd else none by unfold parseV; rw [if_neg hlt])
    have HO := hide ((((Only.refl [] w).alloc (.cells zs4 145)).alloc (.cells #[.bool false] 4)).alloc (.cells #[.string s, .int .i64 0] 180))
    have HB := hide (((Blk.new w 145 zs4).alloc (.cells #[.bool false] 4)).alloc (.cells #[.string s, .int .i64 0] 180))
    have HC := hide (show Blk (((w.alloc (.cells zs4 145)).alloc (.cells #[.bool false] 4)).alloc (.cells #[.string s, .int .i64 0] 180)) (w.heap.size + 1) 4 #[.bool false] by
      have h := (Blk.new (w.alloc (.cells zs4 145)) 4 #[.bool false]).alloc (.cells #[.string s, .int .i64 0] 180)
      simpa using h)
    have HA := hide (show At (w.heap.size + 1 + 1) s 0 (((w.alloc (.cells zs4 145)).alloc (.cells #[.bool false] 4)).alloc (.cells #[.string s, .int .i64 0] 180)) by
      have h := Blk.new ((w.alloc (.cells zs4 145)).alloc (.cells #[.bool false] 4)) 180 #[.string s, .int .i64 0]
      simpa [At] using h)
    unfold zs4 at HO HB HC HA
    cases hr : rd s (2 * s.size + 2) none 0 with
    | none =>
      have HR := hide (show parseV s = none by rw [HV.out, hr])
      rw [hr] at HT
      clear hr
      go_enter_defers Tryz.func107, Tryz.ntmps107
      go_wp2_with (go_at_call 131; refine (HT.out _ HA.out).mono ?_; rintro e w4 ⟨rfl, ho4⟩)
      have HB4 := hide (HB.out.only ho4 (by simp; omega))
      have HC4 := hide (HC.out.only ho4 (by simp))
      refine leaves_cons (f := 130) (args := #[.pointer (some ⟨w.heap.size, 0, none⟩), .pointer (some ⟨w.heap.size + 1, 0, none⟩)]) (by simp) (by simp [go_sem]) ?_
      refine (catch_panicking w.heap.size (w.heap.size + 1) _ _ _ _ _ _ _ _ [] _ HB4.out HC4.out (by omega)).mono ?_
      rintro e u' w5 ⟨rfl, rfl, hw⟩
      have HB5 := hide (show Blk w5 w.heap.size 145 #[.int .i64 0, .int .u64 0, .slice none 0 0, .slice none 0 0] by rw [hw]; exact (fin_blk (n := 0) HB4.out).far (p := ⟨w.heap.size + 1, 0, none⟩) (by simp) _)
      have HC5 := hide (show Blk w5 (w.heap.size + 1) 4 #[.bool false] by rw [hw]; exact (HC4.out.only (fin_only _ _ _ _ _ _) (by simp)).set_ 0 _)
      have HO5 := hide (show Only [] w w5 by rw [hw]; exact ((((HO.out.mono (by simp)).trans (ho4.mono (S' := [w.heap.size + 1 + 1]) (by simp)) |>.mono (S' := [w.heap.size, w.heap.size + 1 + 1]) (by simp)).trans ((fin_only w.heap.size 0 0 (.slice none 0 0) (.slice none 0 0) _).mono (by simp))).setCell (p := ⟨w.heap.size + 1, 0, none⟩) (.inr (by simp)) _).mono (by simp; omega))
      have d0 := HB5.out.cell 0
      have d1 := HB5.out.cell 1
      have d2 := HB5.out.cell 2
      have d3 := HB5.out.cell 3
      have e0 := HC5.out.cell 0
      simp at d0 d1 d2 d3 e0
      clear hw
      simp [Leaves, settle, results, Tryz.results107, go_sem, d0, d1, d2, d3, e0]
      exact parse_no HR.out HO5.out
    | some r =>
      obtain ⟨⟨k, n, bs, parts⟩, q⟩ := r
      rw [hr] at HT
      have hqs := (rd_bd s _ _ _ _ _ hr).2
      have RD : True := trivial
      by_cases hq : q = s.size
      · have HR := hide (show parseV s = some (k, n, bs, parts) by rw [HV.out, hr]; simp only; rw [if_pos hq])
        have hqb : ((q : Int) != (s.size : Int)) = false := by rw [bne_eq_false_iff_eq]; omega
        clear hr hq
        go_enter_defers Tryz.func107, Tryz.ntmps107
        go_wp2_with (go_at_call 131; refine (HT.out _ HA.out).mono ?_; rintro e w4 ⟨bv, pv, rfl, ha4, ho4, hb4, hp4⟩; obtain ⟨A, cap, rfl, _, _⟩ := (hb4 [] (by simp)).formb; obtain ⟨A2, cap2, rfl, _, _⟩ := (hp4 rfl [] (by simp)).form; have HRB := hide hb4; have HRP := hide (hp4 rfl); have HB4 := hide (HB.out.only ho4 (by simp; omega)); have HC4 := hide (HC.out.only ho4 (by simp)); have HO4 := hide ((HO.out.mono (S' := [w.heap.size + 1 + 1]) (by simp)).trans ho4); have HB6 := hide (fin_blk (k := k) (n := n) (bv := .slice A bs.length cap) (pv := .slice A2 (strs parts).length cap2) HB4.out); have HC6 := hide (HC4.out.only (fin_only w.heap.size k n (.slice A bs.length cap) (.slice A2 (strs parts).length cap2) w4) (by simp)); have HO6 := hide ((HO4.out.mono (S' := [w.heap.size, w.heap.size + 1 + 1]) (by simp)).trans ((fin_only w.heap.size k n (.slice A bs.length cap) (.slice A2 (strs parts).length cap2) w4).mono (by simp))); have k1 := ha4.cell 1; have b0 := HB4.out.cell 0; have b1 := HB4.out.cell 1; have b2 := HB4.out.cell 2; have b3 := HB4.out.cell 3; have bf := HB4.out.frozen; have c0 := HC4.out.cell 0; have cf := HC4.out.frozen 0; simp at k1 b0 b1 b2 b3 c0; clear ha4 ho4 hb4 hp4)
        refine leaves_cons (f := 130) (args := #[.pointer (some ⟨w.heap.size, 0, none⟩), .pointer (some ⟨w.heap.size + 1, 0, none⟩)]) (by simp) (by simp [go_sem]) ?_
        refine (catch_idle _ _ _).mono ?_
        rintro e u' w5 ⟨rfl, rfl, hw⟩
        have HF := hide (fin_only w.heap.size k n (.slice A bs.length cap) (.slice A2 (strs parts).length cap2) (fin w.heap.size k n (.slice A bs.length cap) (.slice A2 (strs parts).length cap2) w4))
        have HW5 := hide (show w5 = (fin w.heap.size k n (.slice A bs.length cap) (.slice A2 (strs parts).length cap2) (fin w.heap.size k n (.slice A bs.length cap) (.slice A2 (strs parts).length cap2) w4)).setCell ⟨w.heap.size + 1, 0, none⟩ (.bool true) from hw)
        clear hw
        have HB5 := hide (show Blk w5 w.heap.size 145 #[.int .i64 k, .int .u64 n, .slice A bs.length cap, .slice A2 (strs parts).length cap2] by rw [HW5.out]; exact (fin_blk HB6.out).far (p := ⟨w.heap.size + 1, 0, none⟩) (by simp) _)
        have HC5 := hide (show Blk w5 (w.heap.size + 1) 4 #[.bool true] by rw [HW5.out]; exact (HC6.out.only HF.out (by simp)).set_ 0 _)
        have HO64 := hide (show Only [w.heap.size, w.heap.size + 1] w4 w5 by rw [HW5.out]; exact ((((fin_only w.heap.size k n (.slice A bs.length cap) (.slice A2 (strs parts).length cap2) w4).mono (by simp)).trans (HF.out.mono (by simp))).setCell (p := ⟨w.heap.size + 1, 0, none⟩) (.inl (by simp)) _))
        have HO5 := hide (show Only [] w w5 from ((HO4.out.mono (S' := [w.heap.size, w.heap.size + 1, w.heap.size + 1 + 1]) (by simp)).trans (HO64.out.mono (by simp))).mono (by simp; omega))
        have d0 := HB5.out.cell 0
        have d1 := HB5.out.cell 1
        have d2 := HB5.out.cell 2
        have d3 := HB5.out.cell 3
        have e0 := HC5.out.cell 0
        simp at d0 d1 d2 d3 e0
        simp [Leaves, settle, results, Tryz.results107, go_sem, d0, d1, d2, d3, e0]
        refine parse_yes HR.out HO5.out (fun N hN => ?_) (fun N hN => ?_)
        · exact ((HRB.out (w.heap.size :: (w.heap.size + 1) :: N) (by intro x hx; simp at hx ⊢; rcases hx with rfl | rfl | hx; omega; omega; have := hN x hx; omega)).only HO64.out (by simp)).less (by intro x hx; simp [hx])
        · exact ((HRP.out (w.heap.size :: (w.heap.size + 1) :: N) (by intro x hx; simp at hx ⊢; rcases hx with rfl | rfl | hx; omega; omega; have := hN x hx; omega)).only HO64.out (by simp)).less (by intro x hx; simp [hx])
      · have HR := hide (show parseV s = none by rw [HV.out, hr]; simp only; rw [if_neg hq])
        have hqb : ((q : Int) != (s.size : Int)) = true := by rw [bne_iff_ne]; omega
        clear hr hq
        go_enter_defers Tryz.func107, Tryz.ntmps107
        go_wp2_with (go_at_call 131; refine (HT.out _ HA.out).mono ?_; rintro e w4 ⟨bv, pv, rfl, ha4, ho4, hb4, hp4⟩; obtain ⟨A, cap, rfl, _, _⟩ := (hb4 [] (by simp)).formb; obtain ⟨A2, cap2, rfl, _, _⟩ := (hp4 rfl [] (by simp)).form; have HRB := hide hb4; have HRP := hide (hp4 rfl); have HB4 := hide (HB.out.only ho4 (by simp; omega)); have HC4 := hide (HC.out.only ho4 (by simp)); have HO4 := hide ((HO.out.mono (S' := [w.heap.size + 1 + 1]) (by simp)).trans ho4); have HB6 := hide (fin_blk (k := k) (n := n) (bv := .slice A bs.length cap) (pv := .slice A2 (strs parts).length cap2) HB4.out); have HC6 := hide (HC4.out.only (fin_only w.heap.size k n (.slice A bs.length cap) (.slice A2 (strs parts).length cap2) w4) (by simp)); have HO6 := hide ((HO4.out.mono (S' := [w.heap.size, w.heap.size + 1 + 1]) (by simp)).trans ((fin_only w.heap.size k n (.slice A bs.length cap) (.slice A2 (strs parts).length cap2) w4).mono (by simp))); have k1 := ha4.cell 1; have b0 := HB4.out.cell 0; have b1 := HB4.out.cell 1; have b2 := HB4.out.cell 2; have b3 := HB4.out.cell 3; have bf := HB4.out.frozen; have c0 := HC4.out.cell 0; have cf := HC4.out.frozen 0; simp at k1 b0 b1 b2 b3 c0; clear ha4 ho4 hb4 hp4)
        refine leaves_cons (f := 130) (args := #[.pointer (some ⟨w.heap.size, 0, none⟩), .pointer (some ⟨w.heap.size + 1, 0, none⟩)]) (by simp) (by simp [go_sem]) ?_
        refine (catch_panicking w.heap.size (w.heap.size + 1) _ _ _ _ _ _ _ _ [] _ HB6.out HC6.out (by omega)).mono ?_
        rintro e u' w5 ⟨rfl, rfl, hw⟩
        have HB5 := hide (show Blk w5 w.heap.size 145 #[.int .i64 0, .int .u64 0, .slice none 0 0, .slice none 0 0] by rw [hw]; exact (fin_blk (n := 0) HB6.out).far (p := ⟨w.heap.size + 1, 0, none⟩) (by simp) _)
        have HC5 := hide (show Blk w5 (w.heap.size + 1) 4 #[.bool false] by rw [hw]; exact (HC6.out.only (fin_only _ _ _ _ _ _) (by simp)).set_ 0 _)
        have HO5 := hide (show Only [] w w5 by rw [hw]; exact (((HO6.out.mono (S' := [w.heap.size, w.heap.size + 1 + 1]) (by simp)).trans ((fin_only w.heap.size 0 0 (.slice none 0 0) (.slice none 0 0) _).mono (by simp))).setCell (p := ⟨w.heap.size + 1, 0, none⟩) (.inr (by simp)) _).mono (by simp; omega))
        have d0 := HB5.out.cell 0
        have d1 := HB5.out.cell 1
        have d2 := HB5.out.cell 2
        have d3 := HB5.out.cell 3
        have e0 := HC5.out.cell 0
        simp at d0 d1 d2 d3 e0
        clear hw
        simp [Leaves, settle, results, Tryz.results107, go_sem, d0, d1, d2, d3, e0]
        exact parse_no HR.out HO5.out
end
section
open Go.RowKit Go.Deep

def kindT (s : ByteArray) : Int := match parseV s with | none => 0 | some nd => nd.1
def KindPost (s : ByteArray) (w : World) (e : Ending) (w' : World) : Prop := e = .returned (.int .i64 (kindT s)) ∧ Only [] w w'
theorem kindpost {s : ByteArray} {k : Int} {w w' : World} (h : kindT s = k) (ho : Only [] w w') : KindPost s w (.returned (.int .i64 k)) w' := by subst h; exact ⟨rfl, ho⟩

set_option maxRecDepth 100000 in
set_option maxHeartbeats 3200000 in
theorem Kind_any (w : World) (s : ByteArray) (hs : s.size ≤ maxLen) : Calls Tryz.prog 51 #[.string s] w (KindPost s w) := by
  have HP := hide (parse_any w s hs)
  cases hp : parseV s with
  | none =>
    rw [hp] at HP
    have HV := hide (show kindT s = 0 by unfold kindT; rw [hp])
    clear hp
    go_enter Tryz.func51, Tryz.ntmps51
    go_wp2_with (go_at_call 107; refine HP.out.mono ?_; rintro e w1 ⟨rfl, ho⟩; unfold nd0; have HO := hide ho; clear ho)
    go_ret
    exact kindpost HV.out (HO.out.alloc _)
  | some nd =>
    obtain ⟨k, n, bs, parts⟩ := nd
    rw [hp] at HP
    have HV := hide (show kindT s = k by unfold kindT; rw [hp])
    clear hp
    go_enter Tryz.func51, Tryz.ntmps51
    go_wp2_with (go_at_call 107; refine HP.out.mono ?_; rintro e w1 ⟨bv, pv, rfl, ho, hb, hp⟩; obtain ⟨A, cap, rfl, _, _⟩ := (hb [] (by simp)).formb; obtain ⟨A2, cap2, rfl, _, _⟩ := (hp [] (by simp)).form; have HO := hide ho; clear ho hb hp)
    go_ret
    exact kindpost HV.out (HO.out.alloc _)
end
section
open Go.RowKit Go.Deep

theorem kindV_pos {c : Int} (h : kindV c ≠ 0) : 1 ≤ kindV c := by
  unfold kindV at h ⊢
  repeat' split
  all_goals first
    | omega
    | (simp_all; done)
theorem end_kind {s : ByteArray} {k : Int} {n : Nat} {l : List ByteArray} {p q : Nat} {nd : Nd} (hk : 1 ≤ k) (h : rdEnd s k n l p = some (nd, q)) : 1 ≤ nd.1 := by
  unfold rdEnd at h
  by_cases h1 : peekV s p 41 = true
  · rw [if_pos h1] at h
    by_cases h2 : fitsV k l.length = true
    · rw [if_pos h2] at h
      obtain ⟨e, _⟩ := Prod.mk.inj (Option.some.inj h)
      subst e
      exact hk
    · rw [if_neg h2] at h; cases h
  · rw [if_neg h1] at h; cases h
theorem leaf_kind {k : Int} {n q q' : Nat} {b : List UInt8} {l : List ByteArray} {nd : Nd} (hk : 1 ≤ k) (h : some (((k, n, b, l) : Nd), q') = some (nd, q)) : 1 ≤ nd.1 := by
  obtain ⟨e, _⟩ := Prod.mk.inj (Option.some.inj h)
  subst e
  exact hk
theorem rd_kind (s : ByteArray) : ∀ (f : Nat) (m : Option (Int × Nat × List ByteArray)) (p : Nat) (nd : Nd) (q : Nat), (∀ x, m = some x → 1 ≤ x.1) → rd s f m p = some (nd, q) → 1 ≤ nd.1 := by
  intro f
  induction f with
  | zero => intro m p nd q _ h; cases m <;> (simp only [rd] at h; cases h)
  | succ f ih =>
    have ih2 : ∀ (k : Int) (n : Nat) (l : List ByteArray) (p : Nat) (nd : Nd) (q : Nat), 1 ≤ k → rd s f (some (k, n, l)) p = some (nd, q) → 1 ≤ nd.1 := fun k n l p nd q hk h => ih _ p nd q (fun x hx => by cases hx; exact hk) h
    intro m p nd q hm h
    cases m with
    | none =>
      rw [rd] at h
      repeat' (split at h)
      all_goals first
        | (cases h; done)
        | exact ih2 _ _ _ _ _ _ (kindV_pos (by assumption)) h
        | exact end_kind (kindV_pos (by assumption)) h
        | exact leaf_kind (kindV_pos (by assumption)) h
        | exact leaf_kind (k := 1) (by omega) h
        | exact leaf_kind (k := 4) (by omega) h
    | some x =>
      obtain ⟨k, n, parts⟩ := x
      have hk : 1 ≤ k := hm _ rfl
      rw [rd] at h
      repeat' (split at h)
      all_goals first
        | (cases h; done)
        | exact ih2 _ _ _ _ _ _ hk h
        | exact end_kind hk h
theorem kind_pos {s : ByteArray} {k : Int} {n : Nat} {b : List UInt8} {l : List ByteArray} (h : parseV s = some (k, n, b, l)) : 1 ≤ k := by
  unfold parseV at h
  split at h
  · cases h
  · split at h
    · cases h
    · rename_i nd q hr
      split at h
      · injection h with h
        have := rd_kind s _ none 0 nd q (by simp) hr
        rw [h] at this
        exact this
      · cases h
end
section
open Go.RowKit Go.Deep

/-- May a text stand in a message? -/
def fitW (s : ByteArray) : Bool := decide (s.size ≤ 65535) && (parseV s).isSome
set_option maxRecDepth 100000 in
set_option maxHeartbeats 6400000 in
theorem fit_any (w : World) (s : ByteArray) (hs : s.size ≤ maxLen) : Calls Tryz.prog 133 #[.string s] w (RetB (fitW s) w) := by
  have HK := hide (fun W => Kind_any W s hs)
  unfold KindPost at HK
  have hkz : (kindT s != 0) = (parseV s).isSome := by
    unfold kindT
    cases h : parseV s with
    | none => rfl
    | some nd =>
      obtain ⟨k, n, b, l⟩ := nd
      have := kind_pos h
      simp only [Option.isSome_some]
      rw [bne_iff_ne]
      omega
  unfold maxLen at hs
  by_cases h : s.size ≤ 65535
  · have hI : (s.size : Int) ≤ 65535 := by omega
    have HV := hide (show fitW s = (parseV s).isSome by unfold fitW; rw [decide_eq_true h, Bool.true_and])
    generalize kindT s = k at *
    generalize (parseV s).isSome = r at *
    clear h
    cases r
    all_goals
      go_enter Tryz.func133, Tryz.ntmps133
      go_wp2_with (go_at_call 51; refine (HK.out _).mono ?_; rintro e w1 ⟨rfl, ho⟩; have HC := hide ho; clear ho)
      go_ret
      exact retb HV.out HC.out
  · have hI : ¬ (s.size : Int) ≤ 65535 := by omega
    have HV := hide (show fitW s = false by unfold fitW; rw [decide_eq_false h, Bool.false_and])
    clear h
    go_enter Tryz.func133, Tryz.ntmps133
    go_wp2_with fail
    go_ret
    exact retb HV.out (Only.refl _ _)
end
section
open Go.RowKit Go.Deep

set_option maxRecDepth 100000 in
set_option maxHeartbeats 3200000 in
theorem row_none (k : Int) (h1 : (k == 1) = false) (h2 : (k == 2) = false) (h3 : (k == 3) = false) (h4 : (k == 4) = false) (w : World) : Calls Tryz.prog 132 #[.int .i64 k] w fun e w' => e = .returned (.slice none 0 0) ∧ Only [] w w' := by
  have hst := fun (W : World) (a : Addr) (fn : Fn) (c : Array Value) => (run_store Tryz.prog W a (.func fn #[] c) .plain rfl : (store a (.func fn #[] c)).run Tryz.prog W = stored Tryz.prog W a (.func fn #[] c) .plain)
  have hsn := fun (W : World) (a : Addr) => (run_store Tryz.prog W a .nilFunc .plain rfl : (store a .nilFunc).run Tryz.prog W = stored Tryz.prog W a .nilFunc .plain)
  have HO := hide (Only.refl [] w)
  go_enter Tryz.func132, Tryz.ntmps132
  go_wp2_with (go_at_call 149; refine (wnumber_any _ _).mono ?_; rintro e w1 ⟨rfl, hb1, hs1, ho1⟩; (first | (have HO := hide (HO.out.trans ho1)) | (have HO := hide ((HO.out.alloc _).trans ho1))); clear hb1 hs1 ho1)
  go_ret
  exact ⟨rfl, by repeat (first | exact HO.out | apply Only.alloc)⟩
end
section
open Go.RowKit Go.Deep

theorem set13 {w : World} {R : Nat} {t : TypeId} {a0 a1 a2 a3 a4 a5 a6 a7 a8 a9 a10 a11 a12 : Value} (h : Blk w R t #[a0, a1, a2, a3, a4, a5, a6, a7, a8, a9, a10, a11, a12]) (v0 v1 v2 v3 v4 v5 v6 v7 v8 v9 v10 v11 v12 : Value) : Blk (((((((((((((w.setCell ⟨R, 0, none⟩ v0).setCell ⟨R, 1, none⟩ v1).setCell ⟨R, 2, none⟩ v2).setCell ⟨R, 3, none⟩ v3).setCell ⟨R, 4, none⟩ v4).setCell ⟨R, 5, none⟩ v5).setCell ⟨R, 6, none⟩ v6).setCell ⟨R, 7, none⟩ v7).setCell ⟨R, 8, none⟩ v8).setCell ⟨R, 9, none⟩ v9).setCell ⟨R, 10, none⟩ v10).setCell ⟨R, 11, none⟩ v11).setCell ⟨R, 12, none⟩ v12) R t #[v0, v1, v2, v3, v4, v5, v6, v7, v8, v9, v10, v11, v12] := by
  have h2 := (((((((((((((h.set_ 0 v0).set_ 1 v1).set_ 2 v2).set_ 3 v3).set_ 4 v4).set_ 5 v5).set_ 6 v6).set_ 7 v7).set_ 8 v8).set_ 9 v9).set_ 10 v10).set_ 11 v11).set_ 12 v12)
  simp only [List.setIfInBounds_toArray, List.set_cons_zero, List.set_cons_succ] at h2
  exact h2
theorem only13 {S : List Nat} {a w : World} {R : Nat} (h : Only S a w) (hR : R ∈ S ∨ a.heap.size ≤ R) (v0 v1 v2 v3 v4 v5 v6 v7 v8 v9 v10 v11 v12 : Value) : Only S a (((((((((((((w.setCell ⟨R, 0, none⟩ v0).setCell ⟨R, 1, none⟩ v1).setCell ⟨R, 2, none⟩ v2).setCell ⟨R, 3, none⟩ v3).setCell ⟨R, 4, none⟩ v4).setCell ⟨R, 5, none⟩ v5).setCell ⟨R, 6, none⟩ v6).setCell ⟨R, 7, none⟩ v7).setCell ⟨R, 8, none⟩ v8).setCell ⟨R, 9, none⟩ v9).setCell ⟨R, 10, none⟩ v10).setCell ⟨R, 11, none⟩ v11).setCell ⟨R, 12, none⟩ v12) :=
  (((((((((((((h.setCell (p := ⟨R, 0, none⟩) hR v0).setCell (p := ⟨R, 1, none⟩) hR v1).setCell (p := ⟨R, 2, none⟩) hR v2).setCell (p := ⟨R, 3, none⟩) hR v3).setCell (p := ⟨R, 4, none⟩) hR v4).setCell (p := ⟨R, 5, none⟩) hR v5).setCell (p := ⟨R, 6, none⟩) hR v6).setCell (p := ⟨R, 7, none⟩) hR v7).setCell (p := ⟨R, 8, none⟩) hR v8).setCell (p := ⟨R, 9, none⟩) hR v9).setCell (p := ⟨R, 10, none⟩) hR v10).setCell (p := ⟨R, 11, none⟩) hR v11).setCell (p := ⟨R, 12, none⟩) hR v12)
end
section
open Go.RowKit Go.Deep

def strc (ts : List ByteArray) : List Value := ts.map .string
end
section
open Go.RowKit Go.Deep

/-- A message. -/
structure Mg where
  k : Int
  s : Nat
  r : Nat
  c : Nat
  x4 : ByteArray
  x5 : ByteArray
  x6 : ByteArray
  x7 : ByteArray
  x8 : ByteArray
  x9 : ByteArray
  x10 : ByteArray
  x11 : ByteArray
  x12 : ByteArray
/-- Its cells. -/
def Mg.cells (m : Mg) : Array Value := #[.int .i64 m.k, .int .u32 m.s, .int .u32 m.r, .int .u64 m.c, .string m.x4, .string m.x5, .string m.x6, .string m.x7, .string m.x8, .string m.x9, .string m.x10, .string m.x11, .string m.x12]
def eqM (m n : Mg) : Bool := m.k == n.k && m.s == n.s && m.r == n.r && m.c == n.c && m.x4.toList == n.x4.toList && m.x5.toList == n.x5.toList && m.x6.toList == n.x6.toList && m.x7.toList == n.x7.toList && m.x8.toList == n.x8.toList && m.x9.toList == n.x9.toList && m.x10.toList == n.x10.toList && m.x11.toList == n.x11.toList && m.x12.toList == n.x12.toList
theorem toList_inj {a b : ByteArray} (h : a.toList = b.toList) : a = b := by
  rw [ByteArray.toList_eq, ByteArray.toList_eq] at h
  obtain ⟨⟨x⟩⟩ := a
  obtain ⟨⟨y⟩⟩ := b
  exact congrArg (fun z => (⟨⟨z⟩⟩ : ByteArray)) h
theorem eqM_iff (m n : Mg) : eqM m n = true ↔ m = n := by
  constructor
  · intro h
    obtain ⟨k, s, r, c, x4, x5, x6, x7, x8, x9, x10, x11, x12⟩ := m
    obtain ⟨k', s', r', c', y4, y5, y6, y7, y8, y9, y10, y11, y12⟩ := n
    simp only [eqM, Bool.and_eq_true, beq_iff_eq] at h
    obtain ⟨⟨⟨⟨⟨⟨⟨⟨⟨⟨⟨⟨h0, h1⟩, h2⟩, h3⟩, h4⟩, h5⟩, h6⟩, h7⟩, h8⟩, h9⟩, h10⟩, h11⟩, h12⟩ := h
    rw [h0, h1, h2, h3, toList_inj h4, toList_inj h5, toList_inj h6, toList_inj h7, toList_inj h8, toList_inj h9, toList_inj h10, toList_inj h11, toList_inj h12]
  · rintro rfl
    simp [eqM]
set_option maxRecDepth 100000 in
set_option maxHeartbeats 3200000 in
theorem msg_fields : Tryz.prog.underlying 25 = some (.struct (Tryz.prog.fieldsOf 25)) := by kernel_rfl
set_option maxRecDepth 100000 in
set_option maxHeartbeats 3200000 in
theorem msg_eql (m n : Mg) (w : World) : (binOp .eql 25 (.agg m.cells) (.agg n.cells)).run Tryz.prog w = .ok (.bool (eqM m n)) w := by
  rw [run_eql_struct, run_equalIn_agg w 9999 _ _ _ msg_fields (by kernel_rfl)]
  obtain ⟨k, s, r, c, x4, x5, x6, x7, x8, x9, x10, x11, x12⟩ := m
  obtain ⟨k', s', r', c', y4, y5, y6, y7, y8, y9, y10, y11, y12⟩ := n
  simp [Mg.cells, eqM, Program.fieldsOf, Tryz.underlying25, Op.eqFields, go_sem]
  by_cases h : k = k'
  case neg =>
    rw [if_neg h]
    have e : (k == k') = false := by rw [beq_eq_false_iff_ne]; exact h
    simp only [e, Bool.false_and]
  rw [if_pos h]
  have e : (k == k') = true := by rw [beq_iff_eq]; exact h
  simp only [e, Bool.true_and]
  clear h e
  by_cases h : (s : Int) = s'
  case neg =>
    rw [if_neg h]
    have e : (s == s') = false := by rw [beq_eq_false_iff_ne]; omega
    simp only [e, Bool.false_and]
  rw [if_pos h]
  have e : (s == s') = true := by rw [beq_iff_eq]; omega
  simp only [e, Bool.true_and]
  clear h e
  by_cases h : (r : Int) = r'
  case neg =>
    rw [if_neg h]
    have e : (r == r') = false := by rw [beq_eq_false_iff_ne]; omega
    simp only [e, Bool.false_and]
  rw [if_pos h]
  have e : (r == r') = true := by rw [beq_iff_eq]; omega
  simp only [e, Bool.true_and]
  clear h e
  by_cases h : (c : Int) = c'
  case neg =>
    rw [if_neg h]
    have e : (c == c') = false := by rw [beq_eq_false_iff_ne]; omega
    simp only [e, Bool.false_and]
  rw [if_pos h]
  have e : (c == c') = true := by rw [beq_iff_eq]; omega
  simp only [e, Bool.true_and]
  clear h e
  by_cases h : x4.toList = y4.toList
  case neg =>
    rw [if_neg h]
    have e : (x4.toList == y4.toList) = false := by rw [beq_eq_false_iff_ne]; exact h
    simp only [e, Bool.false_and]
  rw [if_pos h]
  have e : (x4.toList == y4.toList) = true := by rw [beq_iff_eq]; exact h
  simp only [e, Bool.true_and]
  clear h e
  by_cases h : x5.toList = y5.toList
  case neg =>
    rw [if_neg h]
    have e : (x5.toList == y5.toList) = false := by rw [beq_eq_false_iff_ne]; exact h
    simp only [e, Bool.false_and]
  rw [if_pos h]
  have e : (x5.toList == y5.toList) = true := by rw [beq_iff_eq]; exact h
  simp only [e, Bool.true_and]
  clear h e
  by_cases h : x6.toList = y6.toList
  case neg =>
    rw [if_neg h]
    have e : (x6.toList == y6.toList) = false := by rw [beq_eq_false_iff_ne]; exact h
    simp only [e, Bool.false_and]
  rw [if_pos h]
  have e : (x6.toList == y6.toList) = true := by rw [beq_iff_eq]; exact h
  simp only [e, Bool.true_and]
  clear h e
  by_cases h : x7.toList = y7.toList
  case neg =>
    rw [if_neg h]
    have e : (x7.toList == y7.toList) = false := by rw [beq_eq_false_iff_ne]; exact h
    simp only [e, Bool.false_and]
  rw [if_pos h]
  have e : (x7.toList == y7.toList) = true := by rw [beq_iff_eq]; exact h
  simp only [e, Bool.true_and]
  clear h e
  by_cases h : x8.toList = y8.toList
  case neg =>
    rw [if_neg h]
    have e : (x8.toList == y8.toList) = false := by rw [beq_eq_false_iff_ne]; exact h
    simp only [e, Bool.false_and]
  rw [if_pos h]
  have e : (x8.toList == y8.toList) = true := by rw [beq_iff_eq]; exact h
  simp only [e, Bool.true_and]
  clear h e
  by_cases h : x9.toList = y9.toList
  case neg =>
    rw [if_neg h]
    have e : (x9.toList == y9.toList) = false := by rw [beq_eq_false_iff_ne]; exact h
    simp only [e, Bool.false_and]
  rw [if_pos h]
  have e : (x9.toList == y9.toList) = true := by rw [beq_iff_eq]; exact h
  simp only [e, Bool.true_and]
  clear h e
  by_cases h : x10.toList = y10.toList
  case neg =>
    rw [if_neg h]
    have e : (x10.toList == y10.toList) = false := by rw [beq_eq_false_iff_ne]; exact h
    simp only [e, Bool.false_and]
  rw [if_pos h]
  have e : (x10.toList == y10.toList) = true := by rw [beq_iff_eq]; exact h
  simp only [e, Bool.true_and]
  clear h e
  by_cases h : x11.toList = y11.toList
  case neg =>
    rw [if_neg h]
    have e : (x11.toList == y11.toList) = false := by rw [beq_eq_false_iff_ne]; exact h
    simp only [e, Bool.false_and]
  rw [if_pos h]
  have e : (x11.toList == y11.toList) = true := by rw [beq_iff_eq]; exact h
  simp only [e, Bool.true_and]
  clear h e
  by_cases h : x12.toList = y12.toList
  case neg =>
    rw [if_neg h]
    have e : (x12.toList == y12.toList) = false := by rw [beq_eq_false_iff_ne]; exact h
    simp only [e]
  rw [if_pos h]
  have e : (x12.toList == y12.toList) = true := by rw [beq_iff_eq]; exact h
  simp only [e]
theorem msg_neq (m n : Mg) (w : World) : (binOp .neq 25 (.agg m.cells) (.agg n.cells)).run Tryz.prog w = .ok (.bool (!eqM m n)) w := by
  have h := msg_eql m n w
  rw [run_eql_struct] at h
  rw [run_neq_struct]
  generalize (Op.equalIn 10000 25 (.agg m.cells) (.agg n.cells)).run Tryz.prog w = R at *
  cases R with
  | ok b w1 =>
    simp only [Result.andThen_ok] at h ⊢
    injection h with h1 h2
    injection h1 with h1
    rw [h1, h2]
  | halt x w1 => simp [Result.andThen] at h
end
section
open Go.RowKit Go.Deep

def noT : ByteArray := ⟨#[]⟩
/-- The texts of a message's row. -/
def textsM (m : Mg) : List ByteArray := if m.k = 1 then [m.x4, m.x5, m.x6, m.x11, m.x12] else if m.k = 2 then [m.x4, m.x7, m.x11, m.x12] else if m.k = 3 then [m.x8, m.x9] else [m.x10]
/-- The message with the fields of its row alone. -/
def onlyM (m : Mg) : Mg :=
  if m.k = 1 then ⟨1, m.s, 0, 0, m.x4, m.x5, m.x6, noT, noT, noT, noT, m.x11, m.x12⟩
  else if m.k = 2 then ⟨2, m.s, m.r, 0, m.x4, noT, noT, m.x7, noT, noT, noT, m.x11, m.x12⟩
  else if m.k = 3 then ⟨3, 0, m.r, 0, noT, noT, noT, noT, m.x8, m.x9, noT, noT, noT⟩
  else ⟨4, 0, m.r, m.c, noT, noT, noT, noT, noT, noT, m.x10, noT, noT⟩
/-- Is it a message? -/
def rightM (m : Mg) : Bool := decide (1 ≤ m.k ∧ m.k ≤ 4) && ((textsM m).all fitW && eqM (onlyM m) m)
/-- What fits the machine. -/
structure Mg.Fine (m : Mg) : Prop where
  s : m.s < 4294967296
  r : m.r < 4294967296
  c : m.c < 18446744073709551616
  x4 : m.x4.size ≤ maxLen
  x5 : m.x5.size ≤ maxLen
  x6 : m.x6.size ≤ maxLen
  x7 : m.x7.size ≤ maxLen
  x8 : m.x8.size ≤ maxLen
  x9 : m.x9.size ≤ maxLen
  x10 : m.x10.size ≤ maxLen
  x11 : m.x11.size ≤ maxLen
  x12 : m.x12.size ≤ maxLen

/-- What proper hands back: the row, where the message is right. -/
def PropPost (n : Nat) (C : Nat → Nat → List Value) (b : Bool) (w : World) (e : Ending) (w' : World) : Prop :=
  ∃ fv, e = .returned (.tuple #[fv, .bool b]) ∧ Only [] w w' ∧ (b = true → ∃ g b1 b2, fv = .slice (some ⟨g, 0, none⟩) n n ∧ w.heap.size ≤ g ∧ w.heap.size ≤ b1 ∧ w.heap.size ≤ b2 ∧ Blk w' g 155 (C b1 b2).toArray ∧
    Blk w' b1 205 #[fnV 150] ∧ Blk w' b2 205 #[fnV 151])
theorem prop_no {n : Nat} {C : Nat → Nat → List Value} {b : Bool} {fv : Value} {w w' : World} (h : b = false) (ho : Only [] w w') : PropPost n C b w (.returned (.tuple #[fv, .bool false])) w' := by
  subst h
  exact ⟨fv, rfl, ho, fun h => by cases h⟩
theorem prop_is {n : Nat} {C : Nat → Nat → List Value} {b b' : Bool} {w w' : World} {g b1 b2 : Nat} (h : b = b') (h1 : w.heap.size ≤ g) (h2 : w.heap.size ≤ b1) (h3 : w.heap.size ≤ b2) (h4 : Blk w' g 155 (C b1 b2).toArray)
    (h5 : Blk w' b1 205 #[fnV 150]) (h6 : Blk w' b2 205 #[fnV 151]) (h7 : Only [] w w') : PropPost n C b w (.returned (.tuple #[.slice (some ⟨g, 0, none⟩) n n, .bool b'])) w' := by
  subst h
  exact ⟨_, rfl, h7, fun _ => ⟨g, b1, b2, rfl, h1, h2, h3, h4, h5, h6⟩⟩
end
section
open Go.RowKit Go.Deep

theorem below_refl_ (B : Nat) (w : World) : Below B w w := ⟨rfl, rfl, rfl, Nat.le_refl _, fun _ _ => rfl⟩
theorem below_grown_ {B : Nat} {w w' w2 : World} (h : Below B w w') {row : Option Nat} (hg : w'.grownBy w2 row) (hr : ∀ k, row = some k → B ≤ k) (hB : B ≤ w'.heap.size) : Below B w w2 :=
  ⟨hg.os.trans h.os, hg.tape.trans h.tape, hg.output.trans h.output, Nat.le_trans h.size hg.size, fun i hi => (hg.block i (by omega) (fun e => by have := hr i e.symm; omega)).trans (h.block i hi)⟩
end
section
open Go.RowKit Go.Deep

theorem fit_size {x : ByteArray} (h : fitW x = true) : x.size ≤ 65535 := by
  unfold fitW at h
  rw [Bool.and_eq_true] at h
  exact of_decide_eq_true h.1
theorem only_below {S : List Nat} {B : Nat} {w u u' : World} (h : Only S w u) (hb : Below B u u') (hB : w.heap.size ≤ B) : Only S w u' :=
  ⟨hb.os.trans h.os, hb.tape.trans h.tape, hb.output.trans h.output, Nat.le_trans h.size hb.size, fun i hi hn => (hb.block i (by omega)).trans (h.block i hi hn)⟩
theorem below_row {B : Nat} {w w2 : World} {row : Option Nat} (hg : w.grownBy w2 row) (hr : ∀ k, row = some k → B ≤ k) (hB : B ≤ w.heap.size) : Below B w w2 := below_grown_ (below_refl_ B w) hg hr hB
/-- What Terms hands back. -/
def TermsPost (m : Mg) (w : World) (e : Ending) (w' : World) : Prop :=
  Only [] w w' ∧ if rightM m = true then ∃ v, e = .returned v ∧ Rd w' [] v (strc (textsM m)) else e = .returned (.slice none 0 0)
theorem terms_no {m : Mg} {w w' : World} (h : rightM m = false) (ho : Only [] w w') : TermsPost m w (.returned (.slice none 0 0)) w' := ⟨ho, by rw [if_neg (by rw [h]; decide)]⟩
theorem terms_yes {m : Mg} {w w' : World} {v : Value} {l : List ByteArray} {B n : Nat} (h : rightM m = true) (hl : textsM m = l) (ho : Only [] w w') (hown : w'.ownsRow B 9 1 v n (strc l)) : TermsPost m w (.returned v) w' :=
  ⟨ho, by rw [if_pos h, hl]; exact ⟨v, rfl, (Rd.of_own (N := []) hown (by simp)).1⟩⟩
end
end Go.Proofs.YtfipdjlalfpbnaaGreatDoor

/-
  Walks and plain words (texts Tm8, Tm9, Kz). No condition beyond those that each theorem states.
-/
import Derived.Defers
import Derived.Recover
import Derived.Test.YteoifokmbkpbnaaDoorQ06
namespace Go.Proofs.YteoifokmbkpbnaaDoor
section
open Go.RowKit Go.Deep

theorem term_all (s : ByteArray) : ∀ f, TSaid s f := by
  intro f
  induction f using Nat.strongRecOn with
  | _ f ih =>
    cases f with
    | zero => intro w g p keep _ _ _ h; omega
    | succ f => exact read_any s f (rest_any s f fun f' h => ih f' (by omega))

theorem catch_idle (p q : Addr) (w : World) :
    CallsD Tryd.prog 111 #[.pointer (some p), .pointer (some q)] .returning w fun e u' w' => e = .returned (.tuple #[]) ∧ u' = .returning ∧ w' = w := by
  refine callsD_of_wpS Tryd.func111 rfl fun c₀ cs hu => ?_
  apply wpS_seq
  apply wpS_region
  simp [wpOpsS, go_sem, recoverD, hu, Tryd.ntmps111, Exit.thenS]
  apply wpS_seq
  apply wpS_region
  simp [wpOpsS, go_sem, Exit.thenS]
  refine wpS_cond (t := false) (by simp [Act.eval, Array.replicate]) ?_
  simp only [Bool.false_eq_true, if_false]
  refine wpS_of_wp (wp_skip ?_)
  cases c₀
  simp_all [bodyPostS, results, Tryd.results111]

theorem catch_panicking (B C : Nat) (u : TypeId) (pv a b c d x : Value) (tb : TypeId) (older : List PanicEntry) (w : World) (hB : Blk w B 130 #[a, b, c, d]) (hC : Blk w C tb #[x]) (hne : B ≠ C) :
    CallsD Tryd.prog 111 #[.pointer (some ⟨B, 0, none⟩), .pointer (some ⟨C, 0, none⟩)] (.panicking ({ v := .iface u pv, recovered := false } :: older)) w fun e u' w' =>
      e = .returned (.tuple #[]) ∧ u' = .panicking ({ v := .iface u pv, recovered := true } :: older) ∧ w' = (fin B 0 0 (.slice none 0 0) (.slice none 0 0) w).setCell ⟨C, 0, none⟩ (.bool false) := by
  have b0 := hB.cell 0
  have b1 := hB.cell 1
  have b2 := hB.cell 2
  have b3 := hB.cell 3
  have bf := hB.frozen
  have c0 := hC.cell 0
  have cf := hC.frozen 0
  simp at b0 b1 b2 b3 c0
  refine callsD_of_wpS Tryd.func111 rfl fun c₀ cs hu => ?_
  apply wpS_seq
  apply wpS_region
  simp [wpOpsS, go_sem, recoverD, hu, Tryd.ntmps111, Exit.thenS]
  apply wpS_seq
  apply wpS_region
  simp [wpOpsS, go_sem, Exit.thenS]
  refine wpS_cond (t := true) (by simp [Act.eval, Array.replicate]) ?_
  simp only [if_true]
  apply wpS_region
  simp [wpOpsS, go_sem, b0, b1, b2, b3, bf, c0, cf, bodyPostS, results, Tryd.results111]
  rfl

/-- A text as a term as a whole. -/
def parseV (s : ByteArray) : Option Nd :=
  if 65536 < s.size then none else
    match rd s (2 * s.size + 2) none 0 with
    | none => none
    | some (nd, q) => if q = s.size then some nd else none
def nd0 : Value := .agg #[.int .i64 0, .int .u64 0, .slice none 0 0, .slice none 0 0]
def ParsePost (r : Option Nd) (w : World) (e : Ending) (w' : World) : Prop :=
  match r with
  | none => e = .returned (.tuple #[nd0, .bool false]) ∧ Only [] w w'
  | some nd => ∃ bv pv, e = .returned (.tuple #[.agg #[.int .i64 nd.1, .int .u64 nd.2.1, bv, pv], .bool true]) ∧ Only [] w w' ∧
      (∀ N : List Nat, (∀ x ∈ N, x < w.heap.size) → Rd w' N bv (ints .u8 (byts nd.2.2.1))) ∧ (∀ N : List Nat, (∀ x ∈ N, x < w.heap.size) → Rd w' N pv (strs nd.2.2.2))
theorem parse_no {r : Option Nd} {w w' : World} (h : r = none) (ho : Only [] w w') : ParsePost r w (.returned (.tuple #[nd0, .bool false])) w' := by
  subst h; exact ⟨rfl, ho⟩

theorem parse_yes {r : Option Nd} {w w' : World} {k : Int} {n : Nat} {bs : List UInt8} {parts : List ByteArray} {bv pv : Value} (h : r = some (k, n, bs, parts)) (ho : Only [] w w')
    (hb : ∀ N : List Nat, (∀ x ∈ N, x < w.heap.size) → Rd w' N bv (ints .u8 (byts bs))) (hp : ∀ N : List Nat, (∀ x ∈ N, x < w.heap.size) → Rd w' N pv (strs parts)) :
    ParsePost r w (.returned (.tuple #[.agg #[.int .i64 k, .int .u64 n, bv, pv], .bool true])) w' := by
  subst h; exact ⟨_, _, rfl, ho, hb, hp⟩
def zs4 : Array Value := #[.int .i64 0, .int .u64 0, .slice none 0 0, .slice none 0 0]
set_option maxRecDepth 100000 in
set_option maxHeartbeats 3200000 in
theorem parse_any (w : World) (s : ByteArray) (hs : s.size ≤ maxLen) : Calls Tryd.prog 78 #[.string s] w (ParsePost (parseV s) w) := by
  unfold maxLen at hs
  have hmf : ∀ (fn : Fn) (first cap : Array Value) (w : World), (Instr.makeFunc fn first cap).run Tryd.prog w = .ok (.func fn first cap) w := fun _ _ _ _ => rfl
  by_cases hlt : 65536 < s.size
  · have hltI : (65536 : Int) < s.size := by omega
    have HR := hide (show parseV s = none by unfold parseV; rw [if_pos hlt])
    have HO := hide (((Only.refl [] w).alloc (.cells zs4 130)).alloc (.cells #[.bool false] 4))
    clear hlt
    go_enter_defers Tryd.func78, Tryd.ntmps78
    go_wp2_with fail
    simp [Leaves, results, Tryd.results78, go_sem, bodyPostD]
    exact parse_no HR.out HO.out
  · have hltI : ¬ (65536 : Int) < s.size := by omega
    have HT := hide (fun W h => term_all s (2 * s.size + 2) W (w.heap.size + 1 + 1) 0 true h (Nat.zero_le _) (by omega) (by omega))
    have HV := hide (show parseV s = match rd s (2 * s.size + 2) none 0 with | none => none | some (nd, q) => if q = s.size then some nd else none by unfold parseV; rw [if_neg hlt])
    have HO := hide ((((Only.refl [] w).alloc (.cells zs4 130)).alloc (.cells #[.bool false] 4)).alloc (.cells #[.string s, .int .i64 0] 156))
    have HB := hide (((Blk.new w 130 zs4).alloc (.cells #[.bool false] 4)).alloc (.cells #[.string s, .int .i64 0] 156))
    have HC := hide (show Blk (((w.alloc (.cells zs4 130)).alloc (.cells #[.bool false] 4)).alloc (.cells #[.string s, .int .i64 0] 156)) (w.heap.size + 1) 4 #[.bool false] by
      have h := (Blk.new (w.alloc (.cells zs4 130)) 4 #[.bool false]).alloc (.cells #[.string s, .int .i64 0] 156)
      simpa using h)
    have HA := hide (show At (w.heap.size + 1 + 1) s 0 (((w.alloc (.cells zs4 130)).alloc (.cells #[.bool false] 4)).alloc (.cells #[.string s, .int .i64 0] 156)) by
      have h := Blk.new ((w.alloc (.cells zs4 130)).alloc (.cells #[.bool false] 4)) 156 #[.string s, .int .i64 0]
      simpa [At] using h)
    unfold zs4 at HO HB HC HA
    cases hr : rd s (2 * s.size + 2) none 0 with
    | none =>
      have HR := hide (show parseV s = none by rw [HV.out, hr])
      rw [hr] at HT
      clear hr
      go_enter_defers Tryd.func78, Tryd.ntmps78
      go_wp2_with (go_at_call 112; refine (HT.out _ HA.out).mono ?_; rintro e w4 ⟨rfl, ho4⟩)
      have HB4 := hide (HB.out.only ho4 (by simp; omega))
      have HC4 := hide (HC.out.only ho4 (by simp))
      refine leaves_cons (f := 111) (args := #[.pointer (some ⟨w.heap.size, 0, none⟩), .pointer (some ⟨w.heap.size + 1, 0, none⟩)]) (by simp) (by simp [go_sem]) ?_
      refine (catch_panicking w.heap.size (w.heap.size + 1) _ _ _ _ _ _ _ _ [] _ HB4.out HC4.out (by omega)).mono ?_
      rintro e u' w5 ⟨rfl, rfl, hw⟩
      have HB5 := hide (show Blk w5 w.heap.size 130 #[.int .i64 0, .int .u64 0, .slice none 0 0, .slice none 0 0] by rw [hw]; exact (fin_blk (n := 0) HB4.out).far (p := ⟨w.heap.size + 1, 0, none⟩) (by simp) _)
      have HC5 := hide (show Blk w5 (w.heap.size + 1) 4 #[.bool false] by rw [hw]; exact (HC4.out.only (fin_only _ _ _ _ _ _) (by simp)).set_ 0 _)
      have HO5 := hide (show Only [] w w5 by rw [hw]; exact ((((HO.out.mono (by simp)).trans (ho4.mono (S' := [w.heap.size + 1 + 1]) (by simp)) |>.mono (S' := [w.heap.size, w.heap.size + 1 + 1]) (by simp)).trans ((fin_only w.heap.size 0 0 (.slice none 0 0) (.slice none 0 0) _).mono (by simp))).setCell (p := ⟨w.heap.size + 1, 0, none⟩) (.inr (by simp)) _).mono (by simp; omega))
      have d0 := HB5.out.cell 0
      have d1 := HB5.out.cell 1
      have d2 := HB5.out.cell 2
      have d3 := HB5.out.cell 3
      have e0 := HC5.out.cell 0
      simp at d0 d1 d2 d3 e0
      clear hw
      simp [Leaves, settle, results, Tryd.results78, go_sem, d0, d1, d2, d3, e0]
      exact parse_no HR.out HO5.out
    | some r =>
      obtain ⟨⟨k, n, bs, parts⟩, q⟩ := r
      rw [hr] at HT
      have hqs := (rd_bd s _ _ _ _ _ hr).2
      have RD : True := trivial
      by_cases hq : q = s.size
      · have HR := hide (show parseV s = some (k, n, bs, parts) by rw [HV.out, hr]; simp only; rw [if_pos hq])
        have hqb : ((q : Int) != (s.size : Int)) = false := by rw [bne_eq_false_iff_eq]; omega
        clear hr hq
        go_enter_defers Tryd.func78, Tryd.ntmps78
        go_wp2_with (go_at_call 112; refine (HT.out _ HA.out).mono ?_; rintro e w4 ⟨bv, pv, rfl, ha4, ho4, hb4, hp4⟩; obtain ⟨A, cap, rfl, _, _⟩ := (hb4 [] (by simp)).formb; obtain ⟨A2, cap2, rfl, _, _⟩ := (hp4 rfl [] (by simp)).form; have HRB := hide hb4; have HRP := hide (hp4 rfl); have HB4 := hide (HB.out.only ho4 (by simp; omega)); have HC4 := hide (HC.out.only ho4 (by simp)); have HO4 := hide ((HO.out.mono (S' := [w.heap.size + 1 + 1]) (by simp)).trans ho4); have HB6 := hide (fin_blk (k := k) (n := n) (bv := .slice A bs.length cap) (pv := .slice A2 (strs parts).length cap2) HB4.out); have HC6 := hide (HC4.out.only (fin_only w.heap.size k n (.slice A bs.length cap) (.slice A2 (strs parts).length cap2) w4) (by simp)); have HO6 := hide ((HO4.out.mono (S' := [w.heap.size, w.heap.size + 1 + 1]) (by simp)).trans ((fin_only w.heap.size k n (.slice A bs.length cap) (.slice A2 (strs parts).length cap2) w4).mono (by simp))); have k1 := ha4.cell 1; have b0 := HB4.out.cell 0; have b1 := HB4.out.cell 1; have b2 := HB4.out.cell 2; have b3 := HB4.out.cell 3; have bf := HB4.out.frozen; have c0 := HC4.out.cell 0; have cf := HC4.out.frozen 0; simp at k1 b0 b1 b2 b3 c0; clear ha4 ho4 hb4 hp4)
        refine leaves_cons (f := 111) (args := #[.pointer (some ⟨w.heap.size, 0, none⟩), .pointer (some ⟨w.heap.size + 1, 0, none⟩)]) (by simp) (by simp [go_sem]) ?_
        refine (catch_idle _ _ _).mono ?_
        rintro e u' w5 ⟨rfl, rfl, hw⟩
        have HF := hide (fin_only w.heap.size k n (.slice A bs.length cap) (.slice A2 (strs parts).length cap2) (fin w.heap.size k n (.slice A bs.length cap) (.slice A2 (strs parts).length cap2) w4))
        have HW5 := hide (show w5 = (fin w.heap.size k n (.slice A bs.length cap) (.slice A2 (strs parts).length cap2) (fin w.heap.size k n (.slice A bs.length cap) (.slice A2 (strs parts).length cap2) w4)).setCell ⟨w.heap.size + 1, 0, none⟩ (.bool true) from hw)
        clear hw
        have HB5 := hide (show Blk w5 w.heap.size 130 #[.int .i64 k, .int .u64 n, .slice A bs.length cap, .slice A2 (strs parts).length cap2] by rw [HW5.out]; exact (fin_blk HB6.out).far (p := ⟨w.heap.size + 1, 0, none⟩) (by simp) _)
        have HC5 := hide (show Blk w5 (w.heap.size + 1) 4 #[.bool true] by rw [HW5.out]; exact (HC6.out.only HF.out (by simp)).set_ 0 _)
        have HO64 := hide (show Only [w.heap.size, w.heap.size + 1] w4 w5 by rw [HW5.out]; exact ((((fin_only w.heap.size k n (.slice A bs.length cap) (.slice A2 (strs parts).length cap2) w4).mono (by simp)).trans (HF.out.mono (by simp))).setCell (p := ⟨w.heap.size + 1, 0, none⟩) (.inl (by simp)) _))
        have HO5 := hide (show Only [] w w5 from ((HO4.out.mono (S' := [w.heap.size, w.heap.size + 1, w.heap.size + 1 + 1]) (by simp)).trans (HO64.out.mono (by simp))).mono (by simp; omega))
        have d0 := HB5.out.cell 0
        have d1 := HB5.out.cell 1
        have d2 := HB5.out.cell 2
        have d3 := HB5.out.cell 3
        have e0 := HC5.out.cell 0
        simp at d0 d1 d2 d3 e0
        simp [Leaves, settle, results, Tryd.results78, go_sem, d0, d1, d2, d3, e0]
        refine parse_yes HR.out HO5.out (fun N hN => ?_) (fun N hN => ?_)
        · exact ((HRB.out (w.heap.size :: (w.heap.size + 1) :: N) (by intro x hx; simp at hx ⊢; rcases hx with rfl | rfl | hx; omega; omega; have := hN x hx; omega)).only HO64.out (by simp)).less (by intro x hx; simp [hx])
        · exact ((HRP.out (w.heap.size :: (w.heap.size + 1) :: N) (by intro x hx; simp at hx ⊢; rcases hx with rfl | rfl | hx; omega; omega; have := hN x hx; omega)).only HO64.out (by simp)).less (by intro x hx; simp [hx])
      · have HR := hide (show parseV s = none by rw [HV.out, hr]; simp only; rw [if_neg hq])
        have hqb : ((q : Int) != (s.size : Int)) = true := by rw [bne_iff_ne]; omega
        clear hr hq
        go_enter_defers Tryd.func78, Tryd.ntmps78
        go_wp2_with (go_at_call 112; refine (HT.out _ HA.out).mono ?_; rintro e w4 ⟨bv, pv, rfl, ha4, ho4, hb4, hp4⟩; obtain ⟨A, cap, rfl, _, _⟩ := (hb4 [] (by simp)).formb; obtain ⟨A2, cap2, rfl, _, _⟩ := (hp4 rfl [] (by simp)).form; have HRB := hide hb4; have HRP := hide (hp4 rfl); have HB4 := hide (HB.out.only ho4 (by simp; omega)); have HC4 := hide (HC.out.only ho4 (by simp)); have HO4 := hide ((HO.out.mono (S' := [w.heap.size + 1 + 1]) (by simp)).trans ho4); have HB6 := hide (fin_blk (k := k) (n := n) (bv := .slice A bs.length cap) (pv := .slice A2 (strs parts).length cap2) HB4.out); have HC6 := hide (HC4.out.only (fin_only w.heap.size k n (.slice A bs.length cap) (.slice A2 (strs parts).length cap2) w4) (by simp)); have HO6 := hide ((HO4.out.mono (S' := [w.heap.size, w.heap.size + 1 + 1]) (by simp)).trans ((fin_only w.heap.size k n (.slice A bs.length cap) (.slice A2 (strs parts).length cap2) w4).mono (by simp))); have k1 := ha4.cell 1; have b0 := HB4.out.cell 0; have b1 := HB4.out.cell 1; have b2 := HB4.out.cell 2; have b3 := HB4.out.cell 3; have bf := HB4.out.frozen; have c0 := HC4.out.cell 0; have cf := HC4.out.frozen 0; simp at k1 b0 b1 b2 b3 c0; clear ha4 ho4 hb4 hp4)
        refine leaves_cons (f := 111) (args := #[.pointer (some ⟨w.heap.size, 0, none⟩), .pointer (some ⟨w.heap.size + 1, 0, none⟩)]) (by simp) (by simp [go_sem]) ?_
        refine (catch_panicking w.heap.size (w.heap.size + 1) _ _ _ _ _ _ _ _ [] _ HB6.out HC6.out (by omega)).mono ?_
        rintro e u' w5 ⟨rfl, rfl, hw⟩
        have HB5 := hide (show Blk w5 w.heap.size 130 #[.int .i64 0, .int .u64 0, .slice none 0 0, .slice none 0 0] by rw [hw]; exact (fin_blk (n := 0) HB6.out).far (p := ⟨w.heap.size + 1, 0, none⟩) (by simp) _)
        have HC5 := hide (show Blk w5 (w.heap.size + 1) 4 #[.bool false] by rw [hw]; exact (HC6.out.only (fin_only _ _ _ _ _ _) (by simp)).set_ 0 _)
        have HO5 := hide (show Only [] w w5 by rw [hw]; exact (((HO6.out.mono (S' := [w.heap.size, w.heap.size + 1 + 1]) (by simp)).trans ((fin_only w.heap.size 0 0 (.slice none 0 0) (.slice none 0 0) _).mono (by simp))).setCell (p := ⟨w.heap.size + 1, 0, none⟩) (.inr (by simp)) _).mono (by simp; omega))
        have d0 := HB5.out.cell 0
        have d1 := HB5.out.cell 1
        have d2 := HB5.out.cell 2
        have d3 := HB5.out.cell 3
        have e0 := HC5.out.cell 0
        simp at d0 d1 d2 d3 e0
        clear hw
        simp [Leaves, settle, results, Tryd.results78, go_sem, d0, d1, d2, d3, e0]
        exact parse_no HR.out HO5.out
end
section
open Go.RowKit Go.Deep

def kindT (s : ByteArray) : Int := match parseV s with | none => 0 | some nd => nd.1
def KindPost (s : ByteArray) (w : World) (e : Ending) (w' : World) : Prop := e = .returned (.int .i64 (kindT s)) ∧ Only [] w w'
theorem kindpost {s : ByteArray} {k : Int} {w w' : World} (h : kindT s = k) (ho : Only [] w w') : KindPost s w (.returned (.int .i64 k)) w' := by subst h; exact ⟨rfl, ho⟩

set_option maxRecDepth 100000 in
set_option maxHeartbeats 3200000 in
theorem Kind_any (w : World) (s : ByteArray) (hs : s.size ≤ maxLen) : Calls Tryd.prog 62 #[.string s] w (KindPost s w) := by
  have HP := hide (parse_any w s hs)
  cases hp : parseV s with
  | none =>
    rw [hp] at HP
    have HV := hide (show kindT s = 0 by unfold kindT; rw [hp])
    clear hp
    go_enter Tryd.func62, Tryd.ntmps62
    go_wp2_with (go_at_call 78; refine HP.out.mono ?_; rintro e w1 ⟨rfl, ho⟩; unfold nd0; have HO := hide ho; clear ho)
    go_ret
    exact kindpost HV.out (HO.out.alloc _)
  | some nd =>
    obtain ⟨k, n, bs, parts⟩ := nd
    rw [hp] at HP
    have HV := hide (show kindT s = k by unfold kindT; rw [hp])
    clear hp
    go_enter Tryd.func62, Tryd.ntmps62
    go_wp2_with (go_at_call 78; refine HP.out.mono ?_; rintro e w1 ⟨bv, pv, rfl, ho, hb, hp⟩; obtain ⟨A, cap, rfl, _, _⟩ := (hb [] (by simp)).formb; obtain ⟨A2, cap2, rfl, _, _⟩ := (hp [] (by simp)).form; have HO := hide ho; clear ho hb hp)
    go_ret
    exact kindpost HV.out (HO.out.alloc _)
end
section
open Go.RowKit Go.Deep

theorem kindV_pos {c : Int} (h : kindV c ≠ 0) : 1 ≤ kindV c := by
  unfold kindV at h ⊢
  repeat' split
  all_goals first
    | omega
    | (simp_all; done)
theorem end_kind {s : ByteArray} {k : Int} {n : Nat} {l : List ByteArray} {p q : Nat} {nd : Nd} (hk : 1 ≤ k) (h : rdEnd s k n l p = some (nd, q)) : 1 ≤ nd.1 := by
  unfold rdEnd at h
  by_cases h1 : peekV s p 41 = true
  · rw [if_pos h1] at h
    by_cases h2 : fitsV k l.length = true
    · rw [if_pos h2] at h
      obtain ⟨e, _⟩ := Prod.mk.inj (Option.some.inj h)
      subst e
      exact hk
    · rw [if_neg h2] at h; cases h
  · rw [if_neg h1] at h; cases h
theorem leaf_kind {k : Int} {n q q' : Nat} {b : List UInt8} {l : List ByteArray} {nd : Nd} (hk : 1 ≤ k) (h : some (((k, n, b, l) : Nd), q') = some (nd, q)) : 1 ≤ nd.1 := by
  obtain ⟨e, _⟩ := Prod.mk.inj (Option.some.inj h)
  subst e
  exact hk
theorem rd_kind (s : ByteArray) : ∀ (f : Nat) (m : Option (Int × Nat × List ByteArray)) (p : Nat) (nd : Nd) (q : Nat), (∀ x, m = some x → 1 ≤ x.1) → rd s f m p = some (nd, q) → 1 ≤ nd.1 := by
  intro f
  induction f with
  | zero => intro m p nd q _ h; cases m <;> (simp only [rd] at h; cases h)
  | succ f ih =>
    have ih2 : ∀ (k : Int) (n : Nat) (l : List ByteArray) (p : Nat) (nd : Nd) (q : Nat), 1 ≤ k → rd s f (some (k, n, l)) p = some (nd, q) → 1 ≤ nd.1 := fun k n l p nd q hk h => ih _ p nd q (fun x hx => by cases hx; exact hk) h
    intro m p nd q hm h
    cases m with
    | none =>
      rw [rd] at h
      repeat' (split at h)
      all_goals first
        | (cases h; done)
        | exact ih2 _ _ _ _ _ _ (kindV_pos (by assumption)) h
        | exact end_kind (kindV_pos (by assumption)) h
        | exact leaf_kind (kindV_pos (by assumption)) h
        | exact leaf_kind (k := 1) (by omega) h
        | exact leaf_kind (k := 4) (by omega) h
    | some x =>
      obtain ⟨k, n, parts⟩ := x
      have hk : 1 ≤ k := hm _ rfl
      rw [rd] at h
      repeat' (split at h)
      all_goals first
        | (cases h; done)
        | exact ih2 _ _ _ _ _ _ hk h
        | exact end_kind hk h
theorem kind_pos {s : ByteArray} {k : Int} {n : Nat} {b : List UInt8} {l : List ByteArray} (h : parseV s = some (k, n, b, l)) : 1 ≤ k := by
  unfold parseV at h
  split at h
  · cases h
  · split at h
    · cases h
    · rename_i nd q hr
      split at h
      · injection h with h
        have := rd_kind s _ none 0 nd q (by simp) hr
        rw [h] at this
        exact this
      · cases h
end
end Go.Proofs.YteoifokmbkpbnaaDoor

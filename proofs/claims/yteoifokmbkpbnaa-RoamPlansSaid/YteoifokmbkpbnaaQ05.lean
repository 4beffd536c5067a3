/-
  Walks and plain words (texts SkyO, Ro1, Ro2, Ro3, Ro4, SkyB, Ro5). No condition beyond those that each theorem states.
-/
import Derived.Test.YteoifokmbkpbnaaQ04
namespace Go.Proofs.Yteoifokmbkpbnaa
section
open Go.RowKit Go.Deep Go.ChangeShapes Go.WideShapes Go.ChangeAt

section
variable {H : Type} {enc : TypeId × Value → H} {w : World} {base : Nat} {spare : Nat → Bool} {held : Bool}

theorem list2 {α : Type} {l : List α} (h : l.length = 2) : ∃ a b, l = [a, b] := by
  match l, h with
  | [a, b], _ => exact ⟨a, b, rfl⟩
theorem list3 {α : Type} {l : List α} (h : l.length = 3) : ∃ a b c, l = [a, b, c] := by
  match l, h with
  | [a, b, c], _ => exact ⟨a, b, c, rfl⟩

set_option maxRecDepth 100000 in
theorem dec_int {n : Nat} {cs : List Value} {o : Option (DataW H × List MemPlace)} (h : DataW.trod enc Try.prog w base spare held n 3 cs = o) (ho : o.isSome = true) : ∃ z : Int, cs = [.int .i64 z] ∧ -9223372036854775808 ≤ z ∧ z ≤ 9223372036854775807 := by
  obtain ⟨y, rfl⟩ := Option.isSome_iff_exists.1 ho
  obtain ⟨z, hz, _, hw⟩ := DataW.trod_int Try.underlying3 h
  exact ⟨z, hz, bounds_i64 hw⟩

set_option maxRecDepth 100000 in
theorem dec_pt {n : Nat} {cs : List Value} {y : DataW H × List MemPlace} (h : DataW.trod enc Try.prog w base spare held n 95 cs = some y) : ∃ p, ptc p = cs ∧ Fit p := by
  obtain ⟨xs, m, _, _, hl, hx, hf⟩ := DataW.trod_struct Try.underlying95 h
  rw [show Try.prog.cellsOf 95 = 2 from by kernel_rfl] at hl
  obtain ⟨a, b, rfl⟩ := list2 hl
  have h0 := hf 0 _ rfl
  have h1 := hf 1 _ rfl
  simp only [List.getElem_toArray, List.getElem_cons_zero, List.getElem_cons_succ, show Try.prog.cellsOf 3 = 1 from by kernel_rfl] at h0 h1
  obtain ⟨z0, e0, b0⟩ := dec_int h0 (by rw [List.getElem?_eq_getElem (by rw [hx]; decide)]; rfl)
  obtain ⟨z1, e1, b1⟩ := dec_int h1 (by rw [List.getElem?_eq_getElem (by rw [hx]; decide)]; rfl)
  simp at e0 e1
  exact ⟨(z0, z1), by rw [e0, e1]; rfl, b0, b1⟩
set_option maxRecDepth 100000 in
theorem dec_leg {n : Nat} {cs : List Value} {y : DataW H × List MemPlace} (h : DataW.trod enc Try.prog w base spare held n 104 cs = some y) : ∃ g, lgc g = cs ∧ Fit3 g := by
  obtain ⟨xs, m, _, _, hl, hx, hf⟩ := DataW.trod_struct Try.underlying104 h
  rw [show Try.prog.cellsOf 104 = 3 from by kernel_rfl] at hl
  obtain ⟨a, b, c, rfl⟩ := list3 hl
  have h0 := hf 0 _ rfl
  have h1 := hf 1 _ rfl
  simp only [List.getElem_toArray, List.getElem_cons_zero, List.getElem_cons_succ, show Try.prog.cellsOf 3 = 1 from by kernel_rfl, show Try.prog.cellsOf 95 = 2 from by kernel_rfl] at h0 h1
  rw [List.getElem?_eq_getElem (by rw [hx]; decide)] at h0
  obtain ⟨p, e0, f0⟩ := dec_pt h0
  obtain ⟨z1, e1, b1⟩ := dec_int h1 (by rw [List.getElem?_eq_getElem (by rw [hx]; decide)]; rfl)
  simp [ptc] at e0 e1
  exact ⟨(p.1, p.2, z1), by simp only [lgc]; rw [e0.1, e0.2, e1], f0.1, f0.2, b1⟩

set_option maxRecDepth 100000 in
theorem open_pts {A : Option Addr} {len cap : Nat} {d : DataW H} {ps : List MemPlace} (h : DataW.Trod enc Try.prog w base spare held 46 (.slice A len cap) d ps) : ∃ l, RdS 2 ptc w [] (.slice A len cap) l ∧ ∀ p ∈ l, Fit p :=
  rds_of_trod Try.underlying46 (by kernel_rfl) (by omega) h fun _ _ _ hy => dec_pt hy

end
end
section
open Go.RowKit Go.Deep Go.ChangeShapes Go.WideShapes Go.ChangeAt

/-- A route: its start, the value of its legs' slice, its legs. -/
abbrev Rt := (Int × Int) × Value × List Lg
def rtC (r : Rt) : List Value := [.int .i64 r.1.1, .int .i64 r.1.2, r.2.1]
theorem rtC_len (r : Rt) : (rtC r).length = 3 := rfl
def RdR (w : World) (N : List Nat) (v : Value) (rs : List Rt) : Prop := RdS 3 rtC w N v rs ∧ ∀ r ∈ rs, RdS 3 lgc w N r.2.1 r.2.2
theorem RdR.only {w w' : World} {N S : List Nat} {v : Value} {rs : List Rt} (h : RdR w N v rs) (ho : Only S w w') (hs : ∀ x ∈ S, x ∈ N) : RdR w' N v rs := ⟨h.1.only ho hs, fun r hr => (h.2 r hr).only ho hs⟩
def FitR (r : Rt) : Prop := (∀ g ∈ r.2.2, Fit3 g) ∧ Fit r.1

section
variable {H : Type} {enc : TypeId × Value → H} {w : World} {base : Nat} {spare : Nat → Bool} {held : Bool}

set_option maxRecDepth 100000 in
theorem dec_route {n : Nat} {cs : List Value} {y : DataW H × List MemPlace} (h : DataW.trod enc Try.prog w base spare held n 98 cs = some y) : ∃ r : Rt, rtC r = cs ∧ (RdS 3 lgc w [] r.2.1 r.2.2 ∧ FitR r) := by
  obtain ⟨xs, m, _, _, hl, hx, hf⟩ := DataW.trod_struct Try.underlying98 h
  rw [show Try.prog.cellsOf 98 = 3 from by kernel_rfl] at hl
  obtain ⟨a, b, c, hc⟩ := list3 hl
  rw [hc] at hf
  have h0 := hf 0 _ rfl
  have h1 := hf 1 _ rfl
  simp only [List.getElem_toArray, List.getElem_cons_zero, List.getElem_cons_succ, show Try.prog.cellsOf 96 = 1 from by kernel_rfl, show Try.prog.cellsOf 95 = 2 from by kernel_rfl] at h0 h1
  rw [List.getElem?_eq_getElem (by rw [hx]; decide)] at h0 h1
  obtain ⟨p, e0, f0⟩ := dec_pt h0
  simp [ptc] at e0
  have hsl : ∃ A len cap, c = .slice A len cap := by
    rcases open_slice Try.underlying96 h1 with ⟨hcs, _⟩ | ⟨a, l, c', _, _, _, _, hcs, _⟩
    · simp at hcs
      exact ⟨_, _, _, hcs⟩
    · simp at hcs
      exact ⟨_, _, _, hcs⟩
  obtain ⟨A, len, cap, rfl⟩ := hsl
  obtain ⟨l, hr, hfit⟩ := rds_of_trod (k := 3) (F := lgc) (Q := Fit3) (A := A) (len := len) (cap := cap) (d := (xs[1]'(by rw [hx]; decide)).1) (p := (xs[1]'(by rw [hx]; decide)).2) Try.underlying96 (by kernel_rfl) (by omega) ⟨m, by simpa [Value.cells] using h1⟩ (fun _ _ _ hy => dec_leg hy)
  exact ⟨(p, .slice A len cap, l), by rw [hc, ← e0.1, ← e0.2]; rfl, hr, hfit, f0⟩

set_option maxRecDepth 100000 in
theorem open_rts {A : Option Addr} {len cap : Nat} {d : DataW H} {ps : List MemPlace} (h : DataW.Trod enc Try.prog w base spare held 47 (.slice A len cap) d ps) : ∃ rs, RdR w [] (.slice A len cap) rs ∧ ∀ r ∈ rs, FitR r := by
  obtain ⟨rs, h1, h2⟩ := rds_of_trod (k := 3) (F := rtC) (Q := fun r => RdS 3 lgc w [] r.2.1 r.2.2 ∧ FitR r) Try.underlying47 (by kernel_rfl) (by omega) h fun _ _ _ hy => dec_route hy
  exact ⟨rs, ⟨h1, fun r hr => (h2 r hr).1⟩, fun r hr => (h2 r hr).2⟩
set_option maxRecDepth 100000 in
theorem open_journey {r : Reach} {b0 : Nat} {v : Value} {d : DataW H} {ps : List MemPlace} (hv : Value.okWide Try.prog w r b0 49 v) (h : DataW.Trod enc Try.prog w base spare held 49 v d ps) :
    ∃ (mv rv : Value) (ms : List (Int × Int)) (rs : List Rt), v = .agg #[mv, rv] ∧ RdS 2 ptc w [] mv ms ∧ (∀ p ∈ ms, Fit p) ∧ RdR w [] rv rs ∧ ∀ r ∈ rs, FitR r := by
  obtain ⟨cs, rfl, hcs⟩ := okWide_struct Try.underlying49 hv
  obtain ⟨fuel, hf⟩ := h
  obtain ⟨xs, m, _, _, hl, hx, hf⟩ := DataW.trod_struct Try.underlying49 hf
  rw [show Try.prog.cellsOf 49 = 2 from by kernel_rfl] at hl
  obtain ⟨a, b, hc⟩ := list2 hl
  rw [hc] at hf
  have h0 := hf 0 _ rfl
  have h1 := hf 1 _ rfl
  simp only [List.getElem_toArray, List.getElem_cons_zero, List.getElem_cons_succ, show Try.prog.cellsOf 47 = 1 from by kernel_rfl, show Try.prog.cellsOf 46 = 1 from by kernel_rfl] at h0 h1
  rw [List.getElem?_eq_getElem (by rw [hx]; decide)] at h0 h1
  have hs0 : ∃ A len cap, a = .slice A len cap := by
    rcases open_slice Try.underlying46 h0 with ⟨hcs, _⟩ | ⟨a, l, c', _, _, _, _, hcs, _⟩
    · simp at hcs
      exact ⟨_, _, _, hcs⟩
    · simp at hcs
      exact ⟨_, _, _, hcs⟩
  have hs1 : ∃ A len cap, b = .slice A len cap := by
    rcases open_slice Try.underlying47 h1 with ⟨hcs, _⟩ | ⟨a, l, c', _, _, _, _, hcs, _⟩
    · simp at hcs
      exact ⟨_, _, _, hcs⟩
    · simp at hcs
      exact ⟨_, _, _, hcs⟩
  obtain ⟨A, len, cap, rfl⟩ := hs0
  obtain ⟨A', len', cap', rfl⟩ := hs1
  obtain ⟨ms, hm, hmf⟩ := open_pts (d := (xs[0]'(by rw [hx]; decide)).1) (ps := (xs[0]'(by rw [hx]; decide)).2) (A := A) (len := len) (cap := cap) ⟨m, by simpa [Value.cells] using h0⟩
  obtain ⟨rs, hr, hrf⟩ := open_rts (d := (xs[1]'(by rw [hx]; decide)).1) (ps := (xs[1]'(by rw [hx]; decide)).2) (A := A') (len := len') (cap := cap') ⟨m, by simpa [Value.cells] using h1⟩
  refine ⟨_, _, ms, rs, ?_, hm, hmf, hr, hrf⟩
  have : cs = #[.slice A len cap, .slice A' len' cap'] := by
    have : cs.toList = [.slice A len cap, .slice A' len' cap'] := by simpa [Value.cells] using hc
    rw [← Array.toArray_toList (xs := cs), this]
  rw [this]
end
end
section
open Go.RowKit Go.Deep

def zr : Rt := ((0, 0), .slice none 0 0, [])
/-- The cells of a route in a slice of routes. -/
theorem rts_cell {w : World} {N : List Nat} {g o n cap : Nat} {l : List Rt} (h : RdS 3 rtC w N (.slice (some ⟨g, o, none⟩) n cap) l) {i : Nat} (hi : i < l.length) :
    w.cell? ⟨g, o + i * 3, none⟩ = some (.int .i64 (l.getD i zr).1.1) ∧ w.cell? ⟨g, o + i * 3 + 1, none⟩ = some (.int .i64 (l.getD i zr).1.2) ∧ w.cell? ⟨g, o + i * 3 + 2, none⟩ = some (l.getD i zr).2.1 := by
  have h1 := h.cell (get_lt l zr hi) (j := 0) (u := .int .i64 (l.getD i zr).1.1) rfl
  have h2 := h.cell (get_lt l zr hi) (j := 1) (u := .int .i64 (l.getD i zr).1.2) rfl
  have h3 := h.cell (get_lt l zr hi) (j := 2) (u := (l.getD i zr).2.1) rfl
  exact ⟨h1, by rw [Nat.add_assoc]; exact h2, by rw [Nat.add_assoc]; exact h3⟩
theorem getD_mem {α : Type} (l : List α) (d : α) {i : Nat} (hi : i < l.length) : l.getD i d ∈ l := by
  rw [List.getD_eq_getElem?_getD, List.getElem?_eq_getElem hi]; exact List.getElem_mem _

def heavyV (m : List (Int × Int)) (rs : List Rt) : Bool := decide (70 < m.length) || decide (10 < rs.length) || rs.any fun r => decide (70 < r.2.2.length)

set_option maxRecDepth 100000 in
set_option maxHeartbeats 1600000 in
theorem heavy_any (w : World) (mv rv : Value) (m : List (Int × Int)) (rs : List Rt) (hm : RdS 2 ptc w [] mv m) (hr : RdR w [] rv rs) :
    Calls Try.prog 19 #[.agg #[mv, rv]] w (AndPost (heavyV m rs) w) := by
  obtain ⟨Am, cm, rfl, _, _⟩ := hm.form
  obtain ⟨A, cap, rfl, hcap, hmx⟩ := hr.1.form
  unfold maxLen at hmx
  have HR := hide hr
  obtain ⟨nm, hnm⟩ : ∃ n, n = m.length := ⟨_, rfl⟩
  obtain ⟨n, hn⟩ : ∃ n, n = rs.length := ⟨_, rfl⟩
  have HNM := hide hnm
  have HN := hide hn
  rw [← hn] at hcap HR ⊢
  rw [← hnm]
  clear hm hr hnm hn
  have HO := hide ((Only.refl [] w).alloc (.cells #[.slice Am nm cm, .slice A n cap] 49))
  have HB := hide (Blk.new w 49 #[.slice Am nm cm, .slice A n cap])
  have k0 := HB.out.cell 0
  have k1 := HB.out.cell 1
  simp at k0 k1
  by_cases h1 : 70 < nm
  · have h1' : (70 : Int) < nm := by omega
    have HV := hide (show heavyV m rs = true by unfold heavyV; rw [← HNM.out, decide_eq_true h1]; rfl)
    clear h1
    go_enter Try.func19, Try.ntmps19
    go_wp2_with fail
    go_ret
    exact andpost HV.out HO.out
  have h1' : ¬ (70 : Int) < nm := by omega
  by_cases h2 : 10 < n
  · have h2' : (10 : Int) < n := by omega
    have HV := hide (show heavyV m rs = true by unfold heavyV; rw [← HN.out, decide_eq_true h2, Bool.or_true]; rfl)
    clear h1 h2
    go_enter Try.func19, Try.ntmps19
    go_wp2_with fail
    go_ret
    exact andpost HV.out HO.out
  have h2' : ¬ (10 : Int) < n := by omega
  have HH := hide (show heavyV m rs = rs.any fun r => decide (70 < r.2.2.length) by unfold heavyV; rw [← HNM.out, ← HN.out, decide_eq_false h1, decide_eq_false h2]; rfl)
  go_enter Try.func19, Try.ntmps19
  go_wp2_with fail
  generalize hwA : w.alloc (.cells #[.slice Am nm cm, .slice A n cap] 49) = wA at *
  have HRA := hide (HR.out.only HO.out (by simp))
  clear k0 k1 hwA
  go_loopw [3] (fun i wr => ∃ k : Nat, k ≤ n ∧ i = .int .i64 k ∧ Hid (∀ j, j < k → (rs.getD j zr).2.2.length ≤ 70) ∧ Hid (Only [] wA wr)) (fun i _ => n - (intOf i).toNat)
  case atStart => exact ⟨0, Nat.zero_le _, rfl, hide (fun j hj => by omega), hide (Only.refl _ _)⟩
  case round =>
    obtain ⟨k, hk, rfl, hok, ho⟩ := hrel
    have HBR := hide (HB.out.only ho.out (by simp))
    have k0 := HBR.out.cell 0
    have k1 := HBR.out.cell 1
    simp at k0 k1
    by_cases hlt : k < n
    · have hlt' : (k : Int) < n := by omega
      obtain ⟨g, o, rfl, _, hg⟩ := HRA.out.1.addr (by rw [← HN.out]; omega)
      obtain ⟨c1, c2, c3⟩ := rts_cell (HRA.out.1.only ho.out (by simp)) (show k < rs.length by rw [← HN.out]; exact hlt)
      obtain ⟨Al, cl, hl, _, hlm⟩ := (HRA.out.2 _ (getD_mem rs zr (show k < rs.length by rw [← HN.out]; exact hlt))).form
      rw [hl] at c3
      have HMEM := hide (getD_mem rs zr (show k < rs.length by rw [← HN.out]; exact hlt))
      clear hl
      generalize hp : rs.getD k zr = p at *
      have HP := hide hp
      clear hp
      obtain ⟨q, hq⟩ : ∃ q, q = p.2.2.length := ⟨_, rfl⟩
      have HQ := hide hq
      rw [← hq] at c3
      clear hq
      by_cases h7 : 70 < q
      · have h7' : (70 : Int) < q := by omega
        have HV := hide (show heavyV m rs = true by rw [HH.out, List.any_eq_true]; exact ⟨p, HMEM.out, decide_eq_true (by rw [← HQ.out]; exact h7)⟩)
        go_wp2_with fail
        go_ret
        exact andpost HV.out (HO.out.trans ho.out)
      · have h7' : ¬ (70 : Int) < q := by omega
        go_wp2_with fail
        go_roundw
        case rel => exact ⟨k + 1, by omega, by go_num, hide (fun j hj => by
          rcases Nat.lt_or_ge j k with h | h
          · exact hok.out j h
          · rw [show j = k by omega, HP.out, ← HQ.out]; omega), ho⟩
        case measure => simp [intOf]; omega
    · have hlt' : ¬ (k : Int) < n := by omega
      have HV := hide (show heavyV m rs = false by
        rw [HH.out, List.any_eq_false]
        intro x hx
        obtain ⟨j, hj, rfl⟩ := List.getElem_of_mem hx
        have := hok.out j (by have := HN.out; omega)
        rw [List.getD_eq_getElem?_getD, List.getElem?_eq_getElem hj] at this
        simpa using this)
      go_wp2_with fail
      go_ret
      exact andpost HV.out (HO.out.trans ho.out)
end
section
open Go.RowKit Go.Deep

/-- Is the journey right? -/
def jrV (m : List (Int × Int)) (rs : List Rt) : Bool := mastsV m && (decide (1 ≤ rs.length ∧ rs.length ≤ 8) && rs.all fun r => routesV r.1 r.2.2)

set_option maxRecDepth 100000 in
set_option maxHeartbeats 1600000 in
theorem ref_right (w : World) (N M : List Nat) (mv rv : Value) (m : List (Int × Int)) (rs : List Rt) (hm : RdS 2 ptc w N mv m) (hml : m.length ≤ 1000) (hr : RdR w M rv rs) (hrl : rs.length ≤ 1000) (hll : ∀ r ∈ rs, r.2.2.length ≤ 1000) (hf : ∀ r ∈ rs, FitR r) :
    Calls Try.prog 21 #[mv, rv] w (AndPost (jrV m rs) w) := by
  have HMA := hide (show ∀ W, Only [] w W → _ from fun W ho => masts_ref W N mv m (hm.only ho (by simp)) hml)
  have HRT := hide (show ∀ W r, Only [] w W → r ∈ rs → _ from fun W r ho hmem => routes_ref W M r.2.1 r.1 r.2.2 ((hr.2 r hmem).only ho (by simp)) (hll r hmem) (hf r hmem).1)
  obtain ⟨Am, cm, rfl, _, _⟩ := hm.form
  obtain ⟨A, cap, rfl, hcap, hmx⟩ := hr.1.form
  unfold maxLen at hmx
  have HR := hide hr
  generalize m.length = nm at *
  obtain ⟨n, hn⟩ : ∃ n, n = rs.length := ⟨_, rfl⟩
  have HN := hide hn
  rw [← hn] at hcap HR hrl ⊢
  clear hm hr hn hll hf
  unfold pt at HRT
  go_enter Try.func21, Try.ntmps21
  go_wp2_with fail
  go_loopw [5] (fun i wr => ∃ k : Nat, k ≤ n ∧ i = .int .i64 k ∧ Hid (∀ j, j < k → routesV (rs.getD j zr).1 (rs.getD j zr).2.2 = true) ∧ Hid (Only [] w wr)) (fun i _ => n - (intOf i).toNat)
  case atStart => exact ⟨0, Nat.zero_le _, rfl, hide (fun j hj => by omega), hide (Only.refl _ _)⟩
  case round =>
    obtain ⟨k, hk, rfl, hok, ho⟩ := hrel
    by_cases hlt : k < n
    · have hlt' : (k : Int) < n := by omega
      obtain ⟨g, o, rfl, _, hg⟩ := HR.out.1.addr (by rw [← HN.out]; omega)
      have HCE := hide (show ∀ W, Only [] w W → _ from fun W h => rts_cell (HR.out.1.only (w' := W) (S := []) h (by simp)) (show k < rs.length by rw [← HN.out]; exact hlt))
      have HMEM := hide (getD_mem rs zr (show k < rs.length by rw [← HN.out]; exact hlt))
      generalize hp : rs.getD k zr = p at *
      have HP := hide hp
      clear hp
      obtain ⟨⟨s1, s2⟩, lv, l⟩ := p
      simp only at HCE
      obtain ⟨c1, c2, c3⟩ := HCE.out _ ho.out
      have HC := hide (show ∀ W, Only [] w W → _ from fun W h => HRT.out W ((s1, s2), lv, l) h HMEM.out)
      simp only at HC
      cases hb : routesV (s1, s2) l with
      | true =>
        have HB := hide hb
        clear hb
        go_wp2_with fail
        go_region_held3 (fun w' => w'.cell? ⟨g, o + k * 3, none⟩ = some (.int .i64 s1) ∧ w'.cell? ⟨g, o + k * 3 + 1, none⟩ = some (.int .i64 s2) ∧ w'.cell? ⟨g, o + k * 3 + 2, none⟩ = some lv)
          (exact ⟨c1, c2, c3⟩)
          (first | (go_at_call 42; refine (HC.out _ ho.out.drew).mono ?_; rintro e wq ⟨rfl, hoq⟩; have HOQ := hide (ho.out.drew.trans hoq); obtain ⟨c1, c2, c3⟩ := HCE.out _ HOQ.out; rw [HB.out]))
        all_goals
          go_wp2_with fail
          go_roundw
          case rel => exact ⟨k + 1, by omega, by go_num, hide (fun j hj => by
            rcases Nat.lt_or_ge j k with h | h
            · exact hok.out j h
            · rw [show j = k by omega, HP.out]; exact HB.out), HOQ⟩
          case measure => simp [intOf]; omega
      | false =>
        have HB := hide hb
        have HV := hide (show jrV m rs = false by
          have : rs.all (fun r => routesV r.1 r.2.2) = false := by
            rw [List.all_eq_false]
            exact ⟨_, HMEM.out, by simp only; rw [hb]; simp⟩
          unfold jrV
          rw [this, Bool.and_false, Bool.and_false])
        clear hb
        go_wp2_with fail
        go_region_held3 (fun w' => w'.cell? ⟨g, o + k * 3, none⟩ = some (.int .i64 s1) ∧ w'.cell? ⟨g, o + k * 3 + 1, none⟩ = some (.int .i64 s2) ∧ w'.cell? ⟨g, o + k * 3 + 2, none⟩ = some lv)
          (exact ⟨c1, c2, c3⟩)
          (first | (go_at_call 42; refine (HC.out _ ho.out.drew).mono ?_; rintro e wq ⟨rfl, hoq⟩; have HOQ := hide (ho.out.drew.trans hoq); obtain ⟨c1, c2, c3⟩ := HCE.out _ HOQ.out; rw [HB.out]))
        all_goals
          go_wp2_with fail
          go_ret
          exact andpost HV.out HOQ.out
    · have hlt' : ¬ (k : Int) < n := by omega
      have HALL := hide (show rs.all (fun r => routesV r.1 r.2.2) = true by
        rw [List.all_eq_true]
        intro x hx
        obtain ⟨j, hj, rfl⟩ := List.getElem_of_mem hx
        have := hok.out j (by have := HN.out; omega)
        rwa [List.getD_eq_getElem?_getD, List.getElem?_eq_getElem hj] at this)
      have HJ := hide (show jrV m rs = (mastsV m && decide (1 ≤ n ∧ n ≤ 8)) by unfold jrV; rw [HALL.out, Bool.and_true, HN.out])
      cases hb : mastsV m with
      | false =>
        have HB := hide hb
        have HV := hide (show jrV m rs = false by rw [HJ.out, hb]; rfl)
        clear hb
        go_wp2_with (go_at_call 43; refine (HMA.out _ ho.out).mono ?_; rintro e wq ⟨rfl, hoq⟩; have HOQ := hide (ho.out.trans hoq); rw [HB.out])
        go_ret
        exact andpost HV.out HOQ.out
      | true =>
        have HB := hide hb
        have HV := hide (show jrV m rs = decide (1 ≤ n ∧ n ≤ 8) by rw [HJ.out, hb]; rfl)
        clear hb
        by_cases h1 : 1 ≤ n
        · have h1' : (1 : Int) ≤ n := by omega
          by_cases h2 : n ≤ 8
          · have h2' : (n : Int) ≤ 8 := by omega
            have HW := hide (show jrV m rs = true by rw [HV.out]; exact decide_eq_true ⟨h1, h2⟩)
            go_wp2_with (go_at_call 43; refine (HMA.out _ ho.out).mono ?_; rintro e wq ⟨rfl, hoq⟩; have HOQ := hide (ho.out.trans hoq); rw [HB.out])
            go_ret
            exact andpost HW.out HOQ.out
          · have h2' : ¬ (n : Int) ≤ 8 := by omega
            have HW := hide (show jrV m rs = false by rw [HV.out]; exact decide_eq_false (fun h => h2 h.2))
            go_wp2_with (go_at_call 43; refine (HMA.out _ ho.out).mono ?_; rintro e wq ⟨rfl, hoq⟩; have HOQ := hide (ho.out.trans hoq); rw [HB.out])
            go_ret
            exact andpost (by rw [HW.out]; symm; exact decide_eq_false (by omega)) HOQ.out
        · have h1' : ¬ (1 : Int) ≤ n := by omega
          have HW := hide (show jrV m rs = false by rw [HV.out]; exact decide_eq_false (fun h => h1 h.1))
          go_wp2_with (go_at_call 43; refine (HMA.out _ ho.out).mono ?_; rintro e wq ⟨rfl, hoq⟩; have HOQ := hide (ho.out.trans hoq); rw [HB.out])
          go_ret
          exact andpost HW.out HOQ.out
end
section
open Go.RowKit Go.Deep

set_option maxRecDepth 100000 in
set_option maxHeartbeats 1600000 in
theorem journey_right (w : World) (N M : List Nat) (mv rv : Value) (m : List (Int × Int)) (rs : List Rt) (hm : RdS 2 ptc w N mv m) (hml : m.length ≤ 1000) (hmf : ∀ p ∈ m, Fit p) (hr : RdR w M rv rs) (hrl : rs.length ≤ 1000) (hll : ∀ r ∈ rs, r.2.2.length ≤ 1000) (hf : ∀ r ∈ rs, FitR r) :
    Calls Try.prog 25 #[.agg #[mv, rv]] w (AndPost (jrV m rs) w) := by
  have HNE := hide (show ∀ W, Only [] w W → Calls Try.prog 47 #[mv, .agg #[.int .i64 0, .int .i64 0]] W (TwoPost (if mastsV m = true then (nearV m (0, 0) : Nat) else 0) (if mastsV m = true then 0 else 3) W) from fun W ho => by
    have h := Nearest_any W N mv m (0, 0) (hm.only ho (by simp)) hml hmf ⟨by decide, by decide⟩
    rwa [show okP (0, 0) = true from by decide, Bool.and_true] at h)
  have HRR := hide (show ∀ W r, Only [] w W → r ∈ rs → _ from fun W r ho hmem => route_right W M r.2.1 r.1 r.2.2 ((hr.2 r hmem).only ho (by simp)) (hll r hmem) (hf r hmem).1 (hf r hmem).2)
  obtain ⟨Am, cm, rfl, _, _⟩ := hm.form
  obtain ⟨A, cap, rfl, hcap, hmx⟩ := hr.1.form
  unfold maxLen at hmx
  have HR := hide hr
  generalize m.length = nm at *
  obtain ⟨n, hn⟩ : ∃ n, n = rs.length := ⟨_, rfl⟩
  have HN := hide hn
  rw [← hn] at hcap HR hrl ⊢
  clear hm hr hn hll hf hmf
  have HB := hide (Blk.new w 49 #[.slice Am nm cm, .slice A n cap])
  have HO := hide ((Only.refl [] w).alloc (.cells #[.slice Am nm cm, .slice A n cap] 49))
  have k0 := HB.out.cell 0
  have k1 := HB.out.cell 1
  simp at k0 k1
  cases hb : mastsV m with
  | false =>
    have HV := hide (show jrV m rs = false by unfold jrV; rw [hb]; rfl)
    simp only [hb, Bool.false_eq_true, if_false] at HNE
    clear hb
    go_enter Try.func25, Try.ntmps25
    go_wp2_with (go_at_call 47; refine (HNE.out _ HO.out).mono ?_; rintro e w1 ⟨rfl, ho⟩; have HO1 := hide (HO.out.trans ho); clear ho)
    go_ret
    exact andpost HV.out HO1.out
  | true =>
    have HMT := hide hb
    simp only [hb, if_true] at HNE
    clear hb
    by_cases h1 : 1 ≤ n
    case neg =>
      have h1' : (n : Int) < 1 := by omega
      have HV := hide (show jrV m rs = false by unfold jrV; rw [← HN.out, decide_eq_false (show ¬ (1 ≤ n ∧ n ≤ 8) from fun h => h1 h.1), Bool.false_and, Bool.and_false])
      go_enter Try.func25, Try.ntmps25
      go_wp2_with (go_at_call 47; refine (HNE.out _ HO.out).mono ?_; rintro e w1 ⟨rfl, ho⟩; have HO1 := hide (HO.out.trans ho); have HB1 := hide (HB.out.only ho (by simp)); clear k0 k1; have k0 := HB1.out.cell 0; have k1 := HB1.out.cell 1; simp at k0 k1; clear ho)
      go_ret
      exact andpost HV.out HO1.out
    have h1' : ¬ (n : Int) < 1 := by omega
    by_cases h2 : n ≤ 8
    case neg =>
      have h2' : (8 : Int) < n := by omega
      have HV := hide (show jrV m rs = false by unfold jrV; rw [← HN.out, decide_eq_false (show ¬ (1 ≤ n ∧ n ≤ 8) from fun h => h2 h.2), Bool.false_and, Bool.and_false])
      go_enter Try.func25, Try.ntmps25
      go_wp2_with (go_at_call 47; refine (HNE.out _ HO.out).mono ?_; rintro e w1 ⟨rfl, ho⟩; have HO1 := hide (HO.out.trans ho); have HB1 := hide (HB.out.only ho (by simp)); clear k0 k1; have k0 := HB1.out.cell 0; have k1 := HB1.out.cell 1; simp at k0 k1; clear ho)
      go_ret
      exact andpost HV.out HO1.out
    have h2' : ¬ (8 : Int) < n := by omega
    go_enter Try.func25, Try.ntmps25
    go_wp2_with (go_at_call 47; refine (HNE.out _ HO.out).mono ?_; rintro e w1 ⟨rfl, ho⟩; have HO1 := hide (HO.out.trans ho); have HB1 := hide (HB.out.only ho (by simp)); clear k0 k1; have k0 := HB1.out.cell 0; have k1 := HB1.out.cell 1; simp at k0 k1; clear ho)
    go_loopw [29] (fun i wr => ∃ k : Nat, k ≤ n ∧ i = .int .i64 k ∧ Hid (∀ j, j < k → routesV (rs.getD j zr).1 (rs.getD j zr).2.2 = true) ∧ Hid (Only [] w wr)) (fun i _ => n - (intOf i).toNat)
    case atStart => exact ⟨0, Nat.zero_le _, rfl, hide (fun j hj => by omega), HO1⟩
    case round =>
      obtain ⟨k, hk, rfl, hok, ho⟩ := hrel
      by_cases hlt : k < n
      · have hlt' : (k : Int) < n := by omega
        obtain ⟨g, o, rfl, _, hg⟩ := HR.out.1.addr (by rw [← HN.out]; omega)
        obtain ⟨c1, c2, c3⟩ := rts_cell (HR.out.1.only ho.out (by simp)) (show k < rs.length by rw [← HN.out]; exact hlt)
        have HMEM := hide (getD_mem rs zr (show k < rs.length by rw [← HN.out]; exact hlt))
        have HFM := hide ((HR.out.2 _ HMEM.out).form)
        generalize hp : rs.getD k zr = p at *
        have HP := hide hp
        clear hp
        obtain ⟨⟨s1, s2⟩, lv, l⟩ := p
        simp only at c1 c2 c3
        obtain ⟨Al, cl, hlv, _, _⟩ := HFM.out
        simp only at hlv
        subst hlv
        have HC := hide (show ∀ W, Only [] w W → _ from fun W h => HRR.out W ((s1, s2), .slice Al l.length cl, l) h HMEM.out)
        simp only at HC
        generalize hq : l.length = q at *
        have HOA := hide (ho.out.alloc (.cells #[.int .i64 s1, .int .i64 s2, .slice Al q cl] 98))
        cases hbb : routesV (s1, s2) l with
        | true =>
          have HBB := hide hbb
          clear hbb
          go_wp2_with (go_at_call 48; refine (HC.out _ HOA.out).mono ?_; rintro e wq ⟨rfl, hoq⟩; have HOQ := hide (HOA.out.trans hoq); rw [HBB.out]; clear hoq)
          go_roundw
          case rel => exact ⟨k + 1, by omega, by go_num, hide (fun j hj => by
            rcases Nat.lt_or_ge j k with h | h
            · exact hok.out j h
            · rw [show j = k by omega, HP.out]; exact HBB.out), HOQ⟩
          case measure => simp [intOf]; omega
        | false =>
          have HBB := hide hbb
          have HV := hide (show jrV m rs = false by
            have : rs.all (fun r => routesV r.1 r.2.2) = false := by
              rw [List.all_eq_false]
              exact ⟨_, HMEM.out, by simp only; rw [hbb]; simp⟩
            unfold jrV
            rw [this, Bool.and_false, Bool.and_false])
          clear hbb
          go_wp2_with (go_at_call 48; refine (HC.out _ HOA.out).mono ?_; rintro e wq ⟨rfl, hoq⟩; have HOQ := hide (HOA.out.trans hoq); rw [HBB.out]; clear hoq)
          go_ret
          exact andpost HV.out HOQ.out
      · have hlt' : ¬ (k : Int) < n := by omega
        have HALL := hide (show rs.all (fun r => routesV r.1 r.2.2) = true by
          rw [List.all_eq_true]
          intro x hx
          obtain ⟨j, hj, rfl⟩ := List.getElem_of_mem hx
          have := hok.out j (by have := HN.out; omega)
          rwa [List.getD_eq_getElem?_getD, List.getElem?_eq_getElem hj] at this)
        have HV := hide (show jrV m rs = true by unfold jrV; rw [HALL.out, HMT.out, ← HN.out, decide_eq_true ⟨h1, h2⟩]; rfl)
        go_wp2_with fail
        go_ret
        exact andpost HV.out ho.out
end
section
open Go.RowKit Go.Deep

theorem atK_ok {s : Int × Int} {l : List Lg} (h : routesV s l = true) (T : Nat) {k : Nat} (hk : k ≤ l.length) : okP (atK s l T k) = true := by
  obtain ⟨_, h2, h3⟩ := routes_pos h
  rcases Nat.lt_or_ge T (tot l k) with hT | hT
  · have := atK_rest s l T k (by omega) l.length hk
    rw [← this]
    exact routes_at h T
  · rw [atK_pos s l T h3 k hk hT]
    exact h2 k hk
def PtPost (p : Int × Int) (w : World) (e : Ending) (w' : World) : Prop := e = .returned (pt p) ∧ Only [] w w'

set_option maxRecDepth 100000 in
set_option maxHeartbeats 3200000 in
theorem at_ref (w : World) (N : List Nat) (v : Value) (s : Int × Int) (l : List Lg) (T : Nat) (hv : RdS 3 lgc w N v l) (hl : l.length ≤ 1000) (hr : routesV s l = true) (hT : T ≤ 9223372036854775807) :
    Calls Try.prog 50 #[pt s, v, .int .i64 T] w (PtPost (atV s l T) w) := by
  obtain ⟨A, cap, rfl, hc, hm⟩ := hv.form
  unfold maxLen at hm
  have HV := hide hv
  obtain ⟨n, hn⟩ : ∃ n, n = l.length := ⟨_, rfl⟩
  have HN := hide hn
  rw [← hn] at hl hc HV ⊢
  have HLG := hide (routes_pos hr).1
  have HPO := hide (fun k hk => atK_ok hr T (k := k) hk)
  clear hv hn hr
  obtain ⟨b, hb⟩ : ∃ b, b = w.heap.size + 1 + 1 := ⟨_, rfl⟩
  have HO0 := hide ((((Only.refl [] w).alloc (.cells #[.int .i64 s.1, .int .i64 s.2] 99)).alloc (.cells #[.int .i64 0, .int .i64 0] 99)).alloc (.cells #[.int .i64 s.1, .int .i64 s.2] 99))
  have hB := Blk.new ((w.alloc (.cells #[.int .i64 s.1, .int .i64 s.2] 99)).alloc (.cells #[.int .i64 0, .int .i64 0] 99)) 99 #[.int .i64 s.1, .int .i64 s.2]
  have hR := (Blk.new (w.alloc (.cells #[.int .i64 s.1, .int .i64 s.2] 99)) 99 #[.int .i64 0, .int .i64 0]).alloc (.cells #[.int .i64 s.1, .int .i64 s.2] 99)
  rw [World.size_alloc] at hR
  rw [World.size_alloc, World.size_alloc, ← hb] at hB
  unfold pt
  go_enter Try.func50, Try.ntmps50
  have HB := hide hB
  have HR := hide hR
  have HBN := hide hb
  clear hB hR
  go_wp2_with fail
  rw [← hb]
  clear hb
  generalize ((w.alloc (.cells #[.int .i64 s.1, .int .i64 s.2] 99)).alloc (.cells #[.int .i64 0, .int .i64 0] 99)).alloc (.cells #[.int .i64 s.1, .int .i64 s.2] 99) = w0 at *
  go_loopw [8, 2] (fun i t wr => ∃ k : Nat, k ≤ n ∧ i = .int .i64 k ∧ t = .int .i64 (T - tot l k : Nat) ∧ Hid (Blk wr b 99 #[.int .i64 (atK s l T k).1, .int .i64 (atK s l T k).2]) ∧ Hid (Blk wr (w.heap.size + 1) 99 #[.int .i64 0, .int .i64 0]) ∧ Hid (Only [] w wr)) (fun i _ _ => n - (intOf i).toNat)
  case atStart => exact ⟨0, Nat.zero_le _, rfl, rfl, HB, HR, HO0⟩
  case round =>
    obtain ⟨k, hk, rfl, rfl, hblk, hres, ho⟩ := hrel
    have q0 := hblk.out.cell 0
    have q1 := hblk.out.cell 1
    have z := hblk.out.frozen
    simp at q0 q1
    by_cases hlt : k < n
    · have hlt' : (k : Int) < n := by omega
      have hkl := hide (show k < l.length by rw [← HN.out]; exact hlt)
      obtain ⟨g, o, rfl, _, hg⟩ := HV.out.addr (by rw [← HN.out]; omega)
      obtain ⟨c1, c2, c3⟩ := lgs_cell (HV.out.only ho.out (by simp)) hkl.out
      have hlg := legOk_bd (HLG.out k hkl.out)
      have hpb := okP_bd (HPO.out k (Nat.le_of_lt hkl.out))
      have hsuc : atK s l T (k + 1) = ((atK s l T k).1 + (l.getD k zg).1 * (min (T - tot l k) (l.getD k zg).2.2.toNat : Nat), (atK s l T k).2 + (l.getD k zg).2.1 * (min (T - tot l k) (l.getD k zg).2.2.toNat : Nat)) := rfl
      have htot : T - tot l (k + 1) = (T - tot l k) - min (T - tot l k) (l.getD k zg).2.2.toNat := by
        show T - (tot l k + (l.getD k zg).2.2.toNat) = _
        omega
      have HSUC := hide hsuc
      have HTOT := hide htot
      clear hsuc htot
      have hR : T - tot l k ≤ 9223372036854775807 := by omega
      generalize T - tot l k = R at *
      generalize l.getD k zg = x at *
      generalize atK s l T k = p at *
      obtain ⟨x1, x2, x3⟩ := x
      obtain ⟨p1, p2⟩ := p
      simp only at c1 c2 c3 hlg hpb q0 q1
      obtain ⟨m, hm⟩ : ∃ m : Nat, m = min R x3.toNat := ⟨_, rfl⟩
      have HMIN := hide hm
      have hm4 : m ≤ 10000 := by omega
      have hmR : m ≤ R := by omega
      obtain ⟨m11, m12⟩ := mul_bd (s := m) hlg.1.1 hlg.1.2 (by omega) (by omega)
      obtain ⟨m21, m22⟩ := mul_bd (s := m) hlg.2.1.1 hlg.2.1.2 (by omega) (by omega)
      obtain ⟨⟨b11, b12⟩, b21, b22⟩ := hpb
      have hcase : (x3 = m ∧ ¬ (R : Int) < x3) ∨ (R = m ∧ (R : Int) < x3) := by omega
      have HMR := hide hmR
      clear hlg hm
      rcases hcase with ⟨rfl, hcmp⟩ | ⟨rfl, hcmp⟩
      all_goals
        go_upto_region 8 with (fail)
        go_still_tail 21, (by kernel_rfl)
        change wpList _ _ _ _ _ wr.drew
        go_wp2_with fail
        go_roundw
        case rel => exact ⟨k + 1, by omega, by go_num, by
          rw [HTOT.out, ← HMIN.out]; have := HMR.out; congr 1; omega, hide (by
          rw [HSUC.out]; simp only; rw [← HMIN.out]; exact ((hblk.out.set_ 0 _).set_ 1 _).drew), hide ((hres.out.far (p := ⟨b, 0, none⟩) (by rw [HBN.out]; simp) _).far (p := ⟨b, 1, none⟩) (by rw [HBN.out]; simp) _).drew, hide (((ho.out.setCell (p := ⟨b, 0, none⟩) (.inr (by rw [HBN.out]; simp; omega)) _).setCell (p := ⟨b, 1, none⟩) (.inr (by rw [HBN.out]; simp; omega)) _).drew)⟩
        case measure => simp [intOf]; omega
    · have hlt' : ¬ (k : Int) < n := by omega
      obtain rfl : k = n := by omega
      have HEQ := hide (show atV s l T = atK s l T k by unfold atV; rw [← HN.out])
      have r0 := hres.out.cell 0
      have r1 := hres.out.cell 1
      have rz := hres.out.frozen
      simp at r0 r1
      go_wp2_with fail
      refine bodyPost_ret (v := pt (atK s l T k)) ?_ rfl ⟨by rw [HEQ.out], ?_⟩
      · simp [results, Try.results50, go_sem, pt, r0, r1]
      · exact (ho.out.setCell (p := ⟨w.heap.size + 1, 0, none⟩) (.inr (by simp)) _).setCell (p := ⟨w.heap.size + 1, 1, none⟩) (.inr (by simp)) _
end
section
open Go.RowKit Go.Deep

set_option maxRecDepth 100000 in
set_option maxHeartbeats 1600000 in
theorem ref_at (w : World) (N M : List Nat) (mv rv : Value) (m : List (Int × Int)) (rs : List Rt) (host T : Nat) (hm : RdS 2 ptc w N mv m) (hr : RdR w M rv rs) (hrl : rs.length ≤ 1000) (hll : ∀ r ∈ rs, r.2.2.length ≤ 1000) (hj : jrV m rs = true) (hh : host < rs.length) (hT : T ≤ 9223372036854775807) :
    Calls Try.prog 26 #[mv, rv, .int .i64 host, .int .i64 T] w (NumPost (8 * (nearV m (atV (rs.getD host zr).1 (rs.getD host zr).2.2 T) : Nat) + host + 1) w) := by
  have hjj := hj
  unfold jrV at hjj
  rw [Bool.and_eq_true, Bool.and_eq_true, List.all_eq_true] at hjj
  obtain ⟨hmv, hd, hrs⟩ := hjj
  have hd := of_decide_eq_true hd
  have hmem := getD_mem rs zr hh
  have hrv := hrs _ hmem
  have hmm := masts_mem hmv
  have HAT := hide (show ∀ W, Only [] w W → _ from fun W ho => at_ref W M _ (rs.getD host zr).1 (rs.getD host zr).2.2 T ((hr.2 _ hmem).only ho (by simp)) (hll _ hmem) hrv hT)
  have HNE := hide (show ∀ W, Only [] w W → _ from fun W ho => nearest_ref W N mv m (atV (rs.getD host zr).1 (rs.getD host zr).2.2 T) (hm.only ho (by simp)) (by omega) hmm.1 (routes_at hrv T) hmm.2.1)
  have hnl : nearV m (atV (rs.getD host zr).1 (rs.getD host zr).2.2 T) < m.length := nb_lt _ _ _ hmm.2.1
  obtain ⟨Am, cm, rfl, _, _⟩ := hm.form
  obtain ⟨A, cap, rfl, hcap, hmx⟩ := hr.1.form
  unfold maxLen at hmx
  obtain ⟨g, o, rfl, _, _⟩ := hr.1.addr (by omega)
  have HCE := hide (show ∀ W, Only [] w W → _ from fun W h => rts_cell (hr.1.only (w' := W) (S := []) h (by simp)) hh)
  have hml : m.length ≤ 64 := hmm.2.2
  generalize hX : atV (rs.getD host zr).1 (rs.getD host zr).2.2 T = X at *
  generalize rs.getD host zr = p at *
  obtain ⟨⟨s1, s2⟩, lv, l⟩ := p
  simp only at HCE HAT
  generalize nearV m X = y at *
  generalize hnn : rs.length = n at *
  generalize m.length = nm at *
  have hh' : (host : Int) < n := by omega
  have hn8 : n ≤ 8 := hd.2
  have hy : y ≤ 64 := by omega
  unfold pt at HAT HNE
  have hw1 : IntKind.i64.wrap (8 * (y : Int)) = 8 * (y : Int) := IntWalk.i64_in _ (by omega)
  have hw2 : IntKind.i64.wrap (8 * (y : Int) + (host : Int)) = 8 * (y : Int) + (host : Int) := IntWalk.i64_in _ (by omega)
  have hw3 : IntKind.i64.wrap (8 * (y : Int) + (host : Int) + 1) = 8 * (y : Int) + (host : Int) + 1 := IntWalk.i64_in _ (by omega)
  have HO := hide (Only.refl [] w)
  obtain ⟨c1, c2, c3⟩ := HCE.out _ HO.out
  clear hm hr hj hrs hmem hrv hmm hX hd hmv hll hnn
  go_enter Try.func26, Try.ntmps26
  go_wp2_with fail
  go_region_held3 (fun w' => w'.cell? ⟨g, o + host * 3, none⟩ = some (.int .i64 s1) ∧ w'.cell? ⟨g, o + host * 3 + 1, none⟩ = some (.int .i64 s2) ∧ w'.cell? ⟨g, o + host * 3 + 2, none⟩ = some lv)
    (exact ⟨c1, c2, c3⟩)
    (first
    | (go_at_call 50; refine (HAT.out _ HO.out.drew).mono ?_; rintro e wq ⟨he, hoq⟩; dsimp only [pt] at he; subst he; have HO := hide (HO.out.drew.trans hoq); obtain ⟨c1, c2, c3⟩ := HCE.out _ HO.out)
    | (go_at_call 49; refine (HNE.out _ HO.out).mono ?_; rintro e wq ⟨rfl, hoq⟩; have HO := hide (HO.out.trans hoq); obtain ⟨c1, c2, c3⟩ := HCE.out _ HO.out))
  all_goals
    go_wp2_with fail
    go_ret
    exact numpost rfl HO.out
end
end Go.Proofs.Yteoifokmbkpbnaa

/-
  Walks and plain words (texts Adl, Ret, Ad0, Ad1, Ad2, Same01, Ad4, Ad5, Ad3, Ad6, Ad7). No condition beyond those that each theorem states.
-/
import Derived.Test.YthecnaclfhfilaaDoorChecked
import Derived.StillTailTactics
import Derived.Test.YthecnaclfhfilaaDoorA02
namespace Go.Proofs.YthecnaclfhfilaaDoor
section

/-- The mask of a byte at a place, if b bits are the first ones. -/
def maskN (p b : Nat) : Nat := 256 - 2 ^ (8 - min 8 (b - 8 * p))
/-- A bit of an address. -/
def bitN (l : List UInt8) (j : Nat) : Nat := (l.getD (j / 8) 0).toNat / 2 ^ (7 - j % 8) % 2
def sameP (l m : List UInt8) (b : Nat) : Prop := ∀ k, k < l.length → (l.getD k 0).toNat &&& maskN k b = (m.getD k 0).toNat &&& maskN k b
instance (l m : List UInt8) (b : Nat) : Decidable (sameP l m b) := by unfold sameP; infer_instance
def plainV (l : List UInt8) (b : Nat) : List UInt8 := (List.range l.length).map fun k => UInt8.ofNat ((l.getD k 0).toNat &&& maskN k b)

theorem and_mk_lt (c k b : Nat) (hc : c < 256) : c &&& maskN k b < 256 := Nat.lt_of_le_of_lt Nat.and_le_left hc
theorem plain_length (l : List UInt8) (b : Nat) : (plainV l b).length = l.length := by simp [plainV]
theorem plain_get {l : List UInt8} {b k : Nat} (hk : k < l.length) : (plainV l b).getD k 0 = UInt8.ofNat ((l.getD k 0).toNat &&& maskN k b) := by
  simp [plainV, List.getD, hk]
theorem plain_nat {l : List UInt8} {b k : Nat} (hk : k < l.length) : ((plainV l b).getD k 0).toNat = (l.getD k 0).toNat &&& maskN k b := by
  rw [plain_get hk, UInt8.toNat_ofNat']
  exact Nat.mod_eq_of_lt (and_mk_lt _ _ _ (UInt8.toNat_lt _))
theorem plain_zero (l : List UInt8) : plainV l 0 = List.replicate l.length 0 := by
  apply List.ext_getElem
  · simp [plainV]
  · intro i h1 h2
    simp [plainV, maskN]
theorem mask_step (c r : Nat) (hc : c < 256) (hr : r < 8) : c &&& (256 - 2 ^ (8 - (r + 1))) = (c &&& (256 - 2 ^ (8 - r))) + c / 2 ^ (7 - r) % 2 * 2 ^ (7 - r) := by
  have h : ∀ (r : Fin 8) (c : Fin 256), c.1 &&& (256 - 2 ^ (8 - (r.1 + 1))) = (c.1 &&& (256 - 2 ^ (8 - r.1))) + c.1 / 2 ^ (7 - r.1) % 2 * 2 ^ (7 - r.1) := by decide +kernel
  exact h ⟨r, by omega⟩ ⟨c, hc⟩
theorem plain_step {l : List UInt8} {i : Nat} (hi : i < 8 * l.length) :
    plainV l (i + 1) = (plainV l i).set (i / 8) (UInt8.ofNat (((plainV l i).getD (i / 8) 0).toNat + bitN l i * 2 ^ (7 - i % 8))) := by
  have hk : i / 8 < l.length := by omega
  rw [plain_nat hk]
  apply List.ext_getElem
  · simp [plainV]
  · intro j h1 h2
    rw [plain_length] at h1
    rw [List.getElem_set]
    by_cases hj : i / 8 = j
    · rw [if_pos hj]
      subst hj
      simp only [plainV, List.getElem_map, List.getElem_range]
      congr 1
      have := mask_step (l.getD (i / 8) 0).toNat (i % 8) (UInt8.toNat_lt _) (by omega)
      unfold maskN bitN
      rwa [show min 8 (i + 1 - 8 * (i / 8)) = i % 8 + 1 by omega, show min 8 (i - 8 * (i / 8)) = i % 8 by omega]
    · rw [if_neg hj]
      simp only [plainV, List.getElem_map, List.getElem_range]
      congr 2
      unfold maskN
      congr 2
      omega
def rightV (l : List UInt8) (b : Int) : Bool := (decide (l.length = 4) || decide (l.length = 16)) && decide (0 ≤ b) && decide (b ≤ 8 * (l.length : Int))
theorem right_nat {l : List UInt8} {b : Int} (h : rightV l b = true) : b.toNat ≤ 8 * l.length ∧ 0 ≤ b := by
  simp only [rightV, Bool.and_eq_true, decide_eq_true_eq] at h
  omega
theorem getD_some {l : List UInt8} {k : Nat} (h : k < l.length) : l[k]? = some (l.getD k 0) := by
  rw [List.getD, List.getElem?_eq_getElem h]; rfl
end
section
open Go.RowKit Go.Deep

def RetB (r : Bool) (w : World) (e : Ending) (w' : World) : Prop := e = .returned (.bool r) ∧ Only [] w w'
theorem retb {r s : Bool} {w w' : World} (h : r = s) (ho : Only [] w w') : RetB r w (.returned (.bool s)) w' := by subst h; exact ⟨rfl, ho⟩
theorem results_cell_two {P : Program} {fn : Func} {p q : Tmp} {ty : TypeId} (h : fn.results = #[.cell p ty, .tmp q]) (tmps : Array Value) (w : World) (g : Nat) (t : TypeId) (cs : Array Value) (fr : Nat × Nat) (d : TypeDesc)
    (hp : tmps.getD p undef = .pointer (some ⟨g, 0, none⟩)) (hg : w.heap[g]? = some (.cells cs t fr))
    (hu : P.underlying ty = some d) (hd : (match d with | .struct _ | .array _ _ => true | _ => false) = true) (hi : (P.info? ty).map (·.size) = some cs.size) :
    (results fn tmps).run P w = .ok (.tuple #[.agg cs, tmps.getD q undef]) w := by
  have hp' : tmps[p]?.getD undef = .pointer (some ⟨g, 0, none⟩) := by simpa using hp
  simp [results, h, hp', asAddr, run_loadVar_row w g t ty cs fr d hg hu hd hi]
end
section
open Go.RowKit Go.Deep


theorem address_is (A : Option Addr) (n cap : Nat) (r : Bool) (hr : (decide (n = 4) || decide (n = 16)) = r) (w : World) : Calls Tryd.prog 47 #[.slice A n cap] w fun e w' => e = .returned (.bool r) ∧ w = w' := by
  have h1 : ((n : Int) == 4) = decide (n = 4) := by
    by_cases h : n = 4
    · subst h; rfl
    · rw [decide_eq_false h, beq_eq_false_iff_ne]; omega
  have h2 : ((n : Int) == 16) = decide (n = 16) := by
    by_cases h : n = 16
    · subst h; rfl
    · rw [decide_eq_false h, beq_eq_false_iff_ne]; omega
  by_cases k1 : n = 4
  · have e1 : ((n : Int) == 4) = true := by rw [h1]; exact decide_eq_true k1
    have HB := hide (show r = true by rw [← hr, decide_eq_true k1]; rfl)
    clear h1 h2 k1 hr
    go_enter Tryd.func47, Tryd.ntmps47
    go_wp2
    go_ret
    exact ⟨by rw [HB.out]; rfl, rfl⟩
  · have e1 : ((n : Int) == 4) = false := by rw [h1]; exact decide_eq_false k1
    have HB := hide (show decide (n = 16) = r by rw [← hr, decide_eq_false k1]; rfl)
    generalize hb : decide (n = 16) = b at *
    clear h1 k1 hb hr
    go_enter Tryd.func47, Tryd.ntmps47
    go_wp2
    go_ret
    exact ⟨by rw [HB.out]; rfl, rfl⟩

def rightN (n : Nat) (b : Int) : Bool := (decide (n = 4) || decide (n = 16)) && decide (0 ≤ b) && decide (b ≤ 8 * (n : Int))
theorem right_any (A : Option Addr) (n cap : Nat) (b : Int) (r : Bool) (hr : rightN n b = r) (w : World) : Calls Tryd.prog 36 #[.agg #[.slice A n cap, .int .i64 b]] w fun e w' => e = .returned (.bool r) ∧ Only [] w w' := by
  have HO := hide ((Only.refl [] w).alloc (.cells #[.slice A n cap, .int .i64 b] 30))
  by_cases k1 : n = 4 ∨ n = 16
  · have HA := hide (show (decide (n = 4) || decide (n = 16)) = true by rcases k1 with rfl | rfl <;> rfl)
    by_cases k2 : 0 ≤ b
    · have HR := hide (show decide (b ≤ 8 * (n : Int)) = r by rw [← hr]; unfold rightN; rw [HA.out, decide_eq_true k2]; rfl)
      clear hr
      have k4 : 8 * (n : Int) ≤ 128 := by omega
      clear k1
      go_enter Tryd.func36, Tryd.ntmps36
      go_wp2_with (go_at_call 47; refine (address_is _ _ _ true HA.out _).mono ?_; rintro e w1 ⟨rfl, rfl⟩)
      go_ret
      exact ⟨by rw [← HR.out]; rfl, HO.out⟩
    · have HR := hide (show false = r by rw [← hr]; unfold rightN; rw [HA.out, decide_eq_false k2]; rfl)
      clear hr k1
      go_enter Tryd.func36, Tryd.ntmps36
      go_wp2_with (go_at_call 47; refine (address_is _ _ _ true HA.out _).mono ?_; rintro e w1 ⟨rfl, rfl⟩)
      go_ret
      exact ⟨by rw [HR.out]; rfl, HO.out⟩
  · have HA := hide (show (decide (n = 4) || decide (n = 16)) = false by rw [decide_eq_false (fun h => k1 (.inl h)), decide_eq_false (fun h => k1 (.inr h))]; rfl)
    have HR := hide (show false = r by rw [← hr]; unfold rightN; rw [HA.out]; rfl)
    clear hr k1
    go_enter Tryd.func36, Tryd.ntmps36
    go_wp2_with (go_at_call 47; refine (address_is _ _ _ false HA.out _).mono ?_; rintro e w1 ⟨rfl, rfl⟩)
    go_ret
    exact ⟨by rw [HR.out]; rfl, HO.out⟩
end
section
open Go.RowKit Go.Deep

theorem mask_any (p b : Nat) (w : World) (hp : p ≤ 1000) (hb : b ≤ 1000) : Calls Tryd.prog 37 #[.int .i64 p, .int .i64 b] w fun e w' => e = .returned (.int .u8 ((maskN p b : Nat) : Int)) ∧ w = w' := by
  by_cases h0 : b ≤ 8 * p
  · have h1 : (b : Int) - 8 * p ≤ 0 := by omega
    have HM := hide (show maskN p b = 0 by unfold maskN; rw [show b - 8 * p = 0 by omega]; rfl)
    clear h0
    go_enter Tryd.func37, Tryd.ntmps37
    go_wp2
    go_ret
    exact ⟨by rw [HM.out]; rfl, rfl⟩
  · by_cases h8 : 8 ≤ b - 8 * p
    · have h1 : ¬ (b : Int) - 8 * p ≤ 0 := by omega
      have h2 : 8 ≤ (b : Int) - 8 * p := by omega
      have HM := hide (show maskN p b = 255 by unfold maskN; rw [show min 8 (b - 8 * p) = 8 by omega])
      clear h0 h8
      go_enter Tryd.func37, Tryd.ntmps37
      go_wp2
      go_ret
      exact ⟨by rw [HM.out]; rfl, rfl⟩
    · obtain ⟨r, hr, hr1, hr7⟩ : ∃ r, b = 8 * p + r ∧ 1 ≤ r ∧ r ≤ 7 := ⟨b - 8 * p, by omega, by omega, by omega⟩
      subst hr
      have HM : Hid (maskN p (8 * p + r) = 256 - 2 ^ (8 - r)) := hide (by unfold maskN; rw [show min 8 (8 * p + r - 8 * p) = r by omega])
      clear h0 h8
      have e1 : (((8 * p + r : Nat) : Int)) = 8 * (p : Int) + (r : Int) := by omega
      rw [e1]
      have e2 : 8 * (p : Int) + (r : Int) - 8 * (p : Int) = (r : Int) := by omega
      clear hb
      rcases (show r = 1 ∨ r = 2 ∨ r = 3 ∨ r = 4 ∨ r = 5 ∨ r = 6 ∨ r = 7 by omega) with rfl | rfl | rfl | rfl | rfl | rfl | rfl
      all_goals
        clear hr1 hr7 e1
        go_enter Tryd.func37, Tryd.ntmps37
        go_wp2
        go_ret
        refine ⟨congrArg (fun x => Ending.returned (.int .u8 x)) ?_, rfl⟩
        rw [HM.out]
        simp only [Nat.add_sub_cancel_left]
        rfl
end
section
open Go.RowKit Go.Deep

theorem andnot0 (c k b : Nat) (hc : c < 256) : c &&& (255 - maskN k b) = 0 ↔ c &&& maskN k b = c := by
  have h : ∀ (r : Fin 9) (c : Fin 256), c.1 &&& (255 - (256 - 2 ^ (8 - r.1))) = 0 ↔ c.1 &&& (256 - 2 ^ (8 - r.1)) = c.1 := by decide +kernel
  exact h ⟨min 8 (b - 8 * k), by omega⟩ ⟨c, hc⟩
theorem mask_lt (k b : Nat) : maskN k b < 256 := by
  unfold maskN
  have : 0 < 2 ^ (8 - min 8 (b - 8 * k)) := Nat.pow_pos (by omega)
  omega
def plainP (l : List UInt8) (b : Nat) : Prop := ∀ k, k < l.length → (l.getD k 0).toNat &&& maskN k b = (l.getD k 0).toNat
theorem plain_eq {l : List UInt8} {b : Nat} : plainP l b ↔ plainV l b = l := by
  unfold plainP
  constructor
  · intro h
    apply List.ext_getElem (plain_length l b)
    intro i h1 h2
    have e := plain_get (b := b) h2
    rw [h i h2, UInt8.ofNat_toNat] at e
    simpa [List.getD, h1, h2] using e
  · intro h k hk
    have e := plain_nat (b := b) hk
    rw [h] at e
    exact e.symm
instance (l : List UInt8) (b : Nat) : Decidable (plainP l b) := by unfold plainP; infer_instance
end
section
open Go.RowKit Go.Deep

theorem same_bytes (v u : Value) (l m : List UInt8) (N M : List Nat) (w : World) (hx : Rd w N v (ints .u8 (byts l))) (hy : Rd w M u (ints .u8 (byts m))) :
    Calls Tryd.prog 10 #[v, u] w fun e w' => e = .returned (.bool (decide (l = m))) ∧ w = w' := by
  obtain ⟨A, cap, rfl, hc, hm⟩ := hx.formb
  obtain ⟨A', cap', rfl, hc', hm'⟩ := hy.formb
  have s1 := rd_string (P := Tryd.prog) hx 23 9 5 Tryd.underlying23 Tryd.underlying5 Tryd.underlying9
  have s2 := rd_string (P := Tryd.prog) hy 23 9 5 Tryd.underlying23 Tryd.underlying5 Tryd.underlying9
  have e : (l == m) = decide (l = m) := by
    by_cases h : l = m
    · simp [h]
    · simp [h]
  have E := hide e
  clear hx hy e
  go_enter Tryd.func10, Tryd.ntmps10
  go_wp2_with fail
  go_ret
  refine ⟨?_, rfl⟩
  rw [← E.out]
  rfl
end
section
open Go.RowKit Go.Deep


theorem refright_any (A : Option Addr) (n cap : Nat) (b : Int) (r : Bool) (hr : rightN n b = r) (w : World) : Calls Tryd.prog 15 #[.agg #[.slice A n cap, .int .i64 b]] w (RetB r w) := by
  have HO := hide ((Only.refl [] w).alloc (.cells #[.slice A n cap, .int .i64 b] 30))
  by_cases k1 : n = 4 ∨ n = 16
  · by_cases k2 : 0 ≤ b
    · rcases k1 with rfl | rfl
      all_goals
        have HR := hide hr
        clear hr
        go_enter Tryd.func15, Tryd.ntmps15
        go_wp2
        go_ret
        refine retb ?_ HO.out
        rw [← HR.out]
        unfold rightN
        simp [k2]
    · have HR := hide (show false = r by rw [← hr]; unfold rightN; rw [decide_eq_false k2]; simp)
      clear hr
      rcases k1 with rfl | rfl
      all_goals
        go_enter Tryd.func15, Tryd.ntmps15
        go_wp2
        go_ret
        exact retb HR.out.symm HO.out
  · have HR := hide (show false = r by rw [← hr]; unfold rightN; rw [decide_eq_false (fun h => k1 (.inl h)), decide_eq_false (fun h => k1 (.inr h))]; rfl)
    have h1 : ((n : Int) == 4) = false := by rw [beq_eq_false_iff_ne]; intro h; exact k1 (.inl (by omega))
    have h2 : ((n : Int) == 16) = false := by rw [beq_eq_false_iff_ne]; intro h; exact k1 (.inr (by omega))
    clear hr k1
    go_enter Tryd.func15, Tryd.ntmps15
    go_wp2
    go_ret
    exact retb HR.out.symm HO.out

theorem bit_any (v : Value) (l : List UInt8) (N : List Nat) (i : Nat) (w : World) (hv : Rd w N v (ints .u8 (byts l))) (hi : i < 8 * l.length) (hl : l.length ≤ 1000) :
    Calls Tryd.prog 35 #[v, .int .i64 i] w fun e w' => e = .returned (.int .u8 ((bitN l i : Nat) : Int)) ∧ w = w' := by
  obtain ⟨A, cap, rfl, hc, hm⟩ := hv.formb
  have hk : i / 8 < l.length := by omega
  obtain ⟨g, o, rfl, _, hg, hcell⟩ := hv.at_.2.2.2 (i / 8) _ (ints_get (byts_get (getD_some hk)))
  have hd : ((i : Int).tdiv 8) = ((i / 8 : Nat) : Int) := by rw [Int.tdiv_eq_ediv_of_nonneg (by omega)]; omega
  have hmo : ((i : Int).tmod 8) = ((i % 8 : Nat) : Int) := by rw [Int.tmod_eq_emod_of_nonneg (by omega)]; omega
  have HB := hide (show bitN l i = (l.getD (i / 8) 0).toNat / 2 ^ (7 - i % 8) % 2 from rfl)
  have hc256 := UInt8.toNat_lt (l.getD (i / 8) 0)
  generalize (l.getD (i / 8) 0).toNat = c at *
  obtain ⟨q, hq⟩ : ∃ q, q = i / 8 := ⟨_, rfl⟩
  obtain ⟨r, hr⟩ : ∃ r, r = i % 8 := ⟨_, rfl⟩
  have hr8 : r < 8 := by omega
  rw [← hr] at HB hmo
  rw [← hq] at hd hk hcell
  clear hv hq hr hi
  go_enter Tryd.func35, Tryd.ntmps35
  go_wp2
  go_ret
  exact ⟨by rw [HB.out]; rfl, rfl⟩

theorem refsame_any (v u : Value) (l m : List UInt8) (b c : Int) (N M : List Nat) (w : World) (hv : Rd w N v (ints .u8 (byts l))) (hu : Rd w M u (ints .u8 (byts m))) :
    Calls Tryd.prog 11 #[.agg #[v, .int .i64 b], .agg #[u, .int .i64 c]] w (RetB (decide (b = c) && decide (l = m)) w) := by
  have HO := hide (((Only.refl [] w).alloc (.cells #[v, .int .i64 b] 30)).alloc (.cells #[u, .int .i64 c] 30))
  have HV := hide ((hv.less (N' := []) (fun x hx => by cases hx)).only HO.out (by simp))
  have HU := hide ((hu.less (N' := []) (fun x hx => by cases hx)).only HO.out (by simp))
  obtain ⟨A, cap, rfl, _, _⟩ := hv.formb
  obtain ⟨A', cap', rfl, _, _⟩ := hu.formb
  clear hv hu
  by_cases h : b = c
  · subst h
    have HR := hide (show (decide (b = b) && decide (l = m)) = decide (l = m) by simp)
    go_enter Tryd.func11, Tryd.ntmps11
    go_wp2_with (go_at_call 10; refine (same_bytes _ _ l m _ _ _ HV.out HU.out).mono ?_; rintro e w1 ⟨rfl, rfl⟩)
    go_ret
    exact retb HR.out HO.out
  · have h1 : (b == c) = false := by rw [beq_eq_false_iff_ne]; exact h
    have HR := hide (show (decide (b = c) && decide (l = m)) = false by rw [decide_eq_false h]; rfl)
    clear h
    go_enter Tryd.func11, Tryd.ntmps11
    go_wp2_with fail
    go_ret
    exact retb HR.out HO.out

theorem right_nat2 {l : List UInt8} {b : Int} (h : rightV l b = true) : ∃ n : Nat, b = n ∧ n ≤ 8 * l.length ∧ (l.length = 4 ∨ l.length = 16) := by
  have h1 := right_nat h
  simp only [rightV, Bool.and_eq_true, Bool.or_eq_true, decide_eq_true_eq] at h
  exact ⟨b.toNat, by omega, by omega, h.1.1⟩
end
section
open Go.RowKit Go.Deep

/-- A prefix handed back: its bytes read as l. -/
def PrefPost (l : List UInt8) (b : Int) (w : World) (e : Ending) (w' : World) : Prop := ∃ v, e = .returned (.agg #[v, .int .i64 b]) ∧ Rd w' [] v (ints .u8 (byts l)) ∧ Only [] w w'
theorem cells_set (l : List UInt8) (k : Nat) (x : Int) (y : UInt8) (h : x = y.toNat) : (ints .u8 (byts l)).toArray.setIfInBounds k (.int .u8 x) = (ints .u8 (byts (l.set k y))).toArray := by
  subst h
  simp [ints, byts, List.map_set]
theorem cells_at {l : List UInt8} {k : Nat} (h : k < l.length) : (ints .u8 (byts l)).toArray[k]? = some (.int .u8 ((l.getD k 0).toNat : Int)) := by
  rw [List.getElem?_toArray]
  exact ints_get (byts_get (getD_some h))
theorem zero_cells (n : Nat) : Array.replicate n (Value.int .u8 0) = (ints .u8 (byts (List.replicate n (0 : UInt8)))).toArray := by
  simp [ints, byts]
theorem rd_of_blk {w : World} {g e : Nat} {cs : List Value} (h : Blk w g e cs.toArray) (N : List Nat) (hN : g ∉ N) (hm : cs.length ≤ maxLen) : Rd w N (.slice (some ⟨g, 0, none⟩) cs.length cs.length) cs :=
  ⟨_, _, rfl, Nat.le_refl _, hm, .inr ⟨g, 0, rfl, hN, h.lt, fun i x hx => by rw [Nat.zero_add, h.cell]; simpa using hx⟩⟩

theorem only_fresh {w w0 wr : World} {g : Nat} (h1 : Only [] w w0) (h2 : Only [g] w0 wr) (hg : w.heap.size ≤ g) : Only [] w wr :=
  ((h1.mono (S' := [g]) (fun x hx => by cases hx)).trans h2).mono fun x hx => .inr (by rw [List.mem_singleton.1 hx]; exact hg)
theorem step_small {l : List UInt8} {i : Nat} (hi : i < 8 * l.length) : ((plainV l i).getD (i / 8) 0).toNat + bitN l i * 2 ^ (7 - i % 8) < 256 := by
  rw [plain_nat (by omega)]
  have := mask_step (l.getD (i / 8) 0).toNat (i % 8) (UInt8.toNat_lt _) (by omega)
  have h2 := and_mk_lt (l.getD (i / 8) 0).toNat (i / 8) (i + 1) (UInt8.toNat_lt _)
  unfold maskN at h2 ⊢
  unfold bitN
  rw [show min 8 (i + 1 - 8 * (i / 8)) = i % 8 + 1 by omega] at h2
  rw [show min 8 (i - 8 * (i / 8)) = i % 8 by omega]
  omega
theorem plain_step2 {l : List UInt8} {i x : Nat} (hi : i < 8 * l.length) (hx : x = ((plainV l i).getD (i / 8) 0).toNat + bitN l i * 2 ^ (7 - i % 8)) :
    ∃ y : UInt8, y.toNat = x ∧ (plainV l i).set (i / 8) y = plainV l (i + 1) := by
  have h := step_small hi
  rw [← hx] at h
  refine ⟨UInt8.ofNat x, by rw [UInt8.toNat_ofNat']; exact Nat.mod_eq_of_lt h, ?_⟩
  rw [plain_step hi, hx]

set_option maxRecDepth 100000 in
set_option maxHeartbeats 6400000 in
theorem refplain_any (v : Value) (l : List UInt8) (b : Nat) (N : List Nat) (w : World) (hv : Rd w N v (ints .u8 (byts l))) (hb : b ≤ 8 * l.length) (hl : l.length ≤ 1000) :
    Calls Tryd.prog 16 #[.agg #[v, .int .i64 b]] w (PrefPost (plainV l b) b w) := by
  obtain ⟨A, cap, rfl, hcp, hcm⟩ := hv.formb
  obtain ⟨n, hn⟩ : ∃ n, n = l.length := ⟨_, rfl⟩
  rw [← hn] at hv hcp hb hl ⊢
  have HN := hide hn
  obtain ⟨i0, hi, hz0, hz1, hz2⟩ := info_parts (show (Tryd.prog.info? 5).map (fun i => (i.zero, i.size, i.bytes)) = some (some (.int .u8 0), 1, 1) by kernel_rfl)
  have hmk : ∀ W, (Instr.makeSlice 23 (.int .i64 (n : Int)) (.int .i64 (n : Int))).run Tryd.prog W = .ok (.slice (some ⟨W.heap.size, 0, none⟩) n n) (W.alloc (.cells (Array.replicate n (.int .u8 0)) 5)) := by
    intro W
    exact run_make_row W 23 5 i0 _ Tryd.underlying23 hi hz0 hz1 rfl .i64 .i64 n n (Nat.le_refl _) (by rw [hz2]; omega) (by omega)
  have HC0 := hide (((((Only.refl [] w).alloc (.cells #[.slice A n cap, .int .i64 b] 30)).alloc (.cells #[.slice none 0 0, .int .i64 0] 30))).alloc (.cells (Array.replicate n (.int .u8 0)) 5))
  have HBX := hide (((Blk.new w 30 #[.slice A n cap, .int .i64 b]).alloc (.cells #[.slice none 0 0, .int .i64 0] 30)).alloc (.cells (Array.replicate n (.int .u8 0)) 5))
  have HBR := hide ((Blk.new (w.alloc (.cells #[.slice A n cap, .int .i64 b] 30)) 30 #[.slice none 0 0, .int .i64 0]).alloc (.cells (Array.replicate n (.int .u8 0)) 5))
  have HBO := hide (Blk.new ((w.alloc (.cells #[.slice A n cap, .int .i64 b] 30)).alloc (.cells #[.slice none 0 0, .int .i64 0] 30)) 5 (Array.replicate n (.int .u8 0)))
  simp only [World.size_alloc] at HBR HBO
  have HV := hide (hv.less (N' := []) (fun x hx => by cases hx))
  clear hv hn
  go_enter Tryd.func16, Tryd.ntmps16
  go_wp2_with fail
  obtain ⟨w0, hw0⟩ : ∃ w0, w0 = ((w.alloc (.cells #[.slice A n cap, .int .i64 b] 30)).alloc (.cells #[.slice none 0 0, .int .i64 0] 30)).alloc (.cells (Array.replicate n (.int .u8 0)) 5) := ⟨_, rfl⟩
  rw [← hw0] at HC0 HBX HBR HBO ⊢
  obtain ⟨G, hG⟩ : ∃ G, G = w.heap.size := ⟨_, rfl⟩
  rw [← hG] at HBX HBR HBO ⊢
  have HG := hide hG
  clear hw0 hG hmk
  rw [zero_cells] at HBO
  go_loopw [4] (fun i wr => ∃ k : Nat, k ≤ b ∧ i = .int .i64 k ∧ Hid (Blk wr (G + 1 + 1) 5 (ints .u8 (byts (plainV l k))).toArray) ∧ Hid (Only [G + 1 + 1] w0 wr)) (fun i _ => b - (intOf i).toNat)
  case atStart => exact ⟨0, Nat.zero_le _, rfl, hide (by rw [plain_zero, ← HN.out]; exact HBO.out), hide (Only.refl _ w0)⟩
  case round =>
    obtain ⟨k, hk, rfl, HS, HX⟩ := hrel
    have HA := hide (only_fresh HC0.out HX.out (by rw [HG.out]; omega))
    have HBX := hide (HBX.out.only HX.out (by simp only [List.mem_singleton]; omega))
    have HBR := hide (HBR.out.only HX.out (by simp only [List.mem_singleton]; omega))
    have c0 := HBX.out.cell 0
    have c1 := HBX.out.cell 1
    simp at c0 c1
    by_cases hlt : k < b
    · have hltI : (k : Int) < b := by omega
      have hk8 : k < 8 * l.length := by rw [← HN.out]; omega
      have hkd : k / 8 < l.length := by omega
      have HK := hide ((bit_any _ l _ k wr.drew (HV.out.only HA.out.drew (by simp)) hk8 (by rw [← HN.out]; exact hl)).mono fun e w' h => (⟨h.1, h.2.symm⟩ : _ ∧ w' = wr.drew))
      have hco : wr.cell? ⟨G + 1 + 1, k / 8, none⟩ = some (.int .u8 (((plainV l k).getD (k / 8) 0).toNat : Int)) := by rw [HS.out.cell, cells_at (by rw [plain_length]; exact hkd)]
      have hfo := HS.out.frozen (k / 8)
      have hd : IntKind.i64.wrap ((k : Int) / 8) = ((k / 8 : Nat) : Int) := by rw [IntWalk.i64_in _ (by omega)]; omega
      have hmo : (k : Int).tmod 8 = ((k % 8 : Nat) : Int) := by rw [Int.tmod_eq_emod_of_nonneg (by omega)]; omega
      have hkn : k / 8 < n := by omega
      have hm8 : k % 8 < 8 := by omega
      obtain ⟨q, hq⟩ : ∃ q, q = k / 8 := ⟨_, rfl⟩
      obtain ⟨r, hr⟩ : ∃ r, r = k % 8 := ⟨_, rfl⟩
      obtain ⟨c, hc⟩ : ∃ c, c = ((plainV l k).getD (k / 8) 0).toNat := ⟨_, rfl⟩
      obtain ⟨x, hx⟩ : ∃ x, x = bitN l k := ⟨_, rfl⟩
      have hX0 := step_small hk8
      rw [← hc, ← hx, ← hr] at hX0
      rw [← hc, ← hq] at hco
      rw [← hq] at hd hkn hfo
      rw [← hr] at hmo hm8
      rw [← hx] at HK
      have HQ := hide hq
      have HR := hide hr
      have HCC := hide hc
      have HXX := hide hx
      have HX0 := hide hX0
      obtain ⟨s, hs⟩ : ∃ s, s = 7 - r := ⟨_, rfl⟩
      have hs7 : IntKind.i64.wrap (7 - (r : Int)) = (s : Int) := by rw [IntWalk.i64_in _ (by omega)]; omega
      obtain ⟨y, hy⟩ : ∃ y, y = x * 2 ^ s := ⟨_, rfl⟩
      rw [← hs, ← hy] at hX0
      have hw8 : IntKind.u8.wrap ((x : Int) * 2 ^ s) = (y : Int) := by
        rw [IntKind.wrap_u8, hy, Int.natCast_mul, Int.natCast_pow]
        have h2 : (x : Int) * 2 ^ s = ((x * 2 ^ s : Nat) : Int) := by rw [Int.natCast_mul, Int.natCast_pow]; rfl
        have h3 : ((2 : Nat) : Int) = 2 := rfl
        rw [h3, h2, ← hy]
        omega
      have hcy : (c : Int) + (y : Int) < 256 := by omega
      have hs8 : s ≤ 7 := by omega
      have HX1 := hide (show c + y = ((plainV l k).getD (k / 8) 0).toNat + bitN l k * 2 ^ (7 - k % 8) by rw [hy, hs, hr, hc, hx])
      clear hq hr hc hx hX0 HX0 hs hy
      go_wp2_with fail
      refine wp_region_still_tail 18 (by kernel_rfl) (by kernel_rfl) ?_
      simp only [List.take_succ_cons, List.take_zero, List.drop_succ_cons, List.drop_zero]
      repeat still_step
      still_call HK.out
      repeat still_step
      refine wpStill_nil ?_
      change wpList _ _ _ _ _ wr.drew
      obtain ⟨yb, hyb, hset⟩ := plain_step2 hk8 HX1.out
      have HSET := hide (cells_set (plainV l k) q ((c : Int) + (y : Int)) yb (by rw [hyb]; omega))
      rw [HQ.out, hset, ← HQ.out] at HSET
      have HS2 := hide (HSET.out ▸ (HS.out.drew.set_ q (.int .u8 ((c : Int) + (y : Int)))))
      have HX2 := hide (HX.out.drew.setCell (p := ⟨G + 1 + 1, q, none⟩) (.inl (by simp)) (.int .u8 ((c : Int) + (y : Int))))
      clear hyb hset
      go_wp2_with fail
      go_roundw
      case rel => exact ⟨k + 1, by omega, by go_num, HS2, HX2⟩
      case measure => simp [intOf]; omega
    · obtain rfl : k = b := by omega
      have hge : ¬ (k : Int) < k := by omega
      have hr0 := HBR.out.cell 0
      have hr1 := HBR.out.cell 1
      simp at hr0 hr1
      have hf0 := HBR.out.frozen 0
      have hf1 := HBR.out.frozen 1
      have HF := hide (((HBR.out.set_ 0 (.slice (some ⟨G + 1 + 1, 0, none⟩) n n)).set_ 1 (.int .i64 (k : Int))))
      have HXF := hide (((HX.out.mono (S' := [G + 1, G + 1 + 1]) (fun x hx => .inl (by simp_all))).setCell (p := ⟨G + 1, 0, none⟩) (.inl (by simp)) (.slice (some ⟨G + 1 + 1, 0, none⟩) n n)).setCell (p := ⟨G + 1, 1, none⟩) (.inl (by simp)) (.int .i64 (k : Int)))
      have HSF := hide ((HS.out.far (p := ⟨G + 1, 0, none⟩) (by simp) (.slice (some ⟨G + 1 + 1, 0, none⟩) n n)).far (p := ⟨G + 1, 1, none⟩) (by simp) (.int .i64 (k : Int)))
      go_wp2_with fail
      refine bodyPost_ret (results_cell_row rfl _ _ (G + 1) 30 _ (0, 0) _ rfl HF.out Tryd.underlying30 rfl (by kernel_rfl)) rfl ?_
      have hRD := rd_of_blk HSF.out [] (by simp) (by rw [ints_length, byts_length, plain_length, ← HN.out]; unfold maxLen; omega)
      rw [ints_length, byts_length, plain_length, ← HN.out] at hRD
      exact ⟨_, rfl, hRD, ((HC0.out.mono (S' := [G + 1, G + 1 + 1]) (fun x hx => by cases hx)).trans HXF.out).mono fun x hx => .inr (by rw [← HG.out]; simp at hx; omega)⟩
end
section
open Go.RowKit Go.Deep

def isPlain (l : List UInt8) (b : Int) : Bool := rightV l b && decide (plainP l b.toNat)

set_option maxHeartbeats 3200000 in
theorem plain_any (v : Value) (l : List UInt8) (b : Int) (N : List Nat) (w : World) (hv : Rd w N v (ints .u8 (byts l))) :
    Calls Tryd.prog 26 #[.agg #[v, .int .i64 b]] w (RetB (isPlain l b) w) := by
  have HO := hide ((Only.refl [] w).alloc (.cells #[v, .int .i64 b] 30))
  have HV := hide ((hv.less (N' := []) (fun x hx => by cases hx)).only HO.out (by simp))
  have HBX := hide (Blk.new w 30 #[v, .int .i64 b])
  obtain ⟨A, cap, rfl, hcp, hcm⟩ := hv.formb
  clear hv
  obtain ⟨n, hn⟩ : ∃ n, n = l.length := ⟨_, rfl⟩
  rw [← hn] at HV HBX HO hcp ⊢
  have HN := hide hn
  cases hr : rightV l b with
  | false =>
    have HR := hide (show isPlain l b = false by unfold isPlain; rw [hr]; rfl)
    have HRR := hide (show rightN n b = false by rw [hn]; exact hr)
    clear hr hn
    go_enter Tryd.func26, Tryd.ntmps26
    go_wp2_with (go_at_call 36; refine (right_any _ _ _ _ false HRR.out _).mono ?_; rintro e w1 ⟨rfl, ho⟩; have HC := hide (HO.out.trans ho); clear ho)
    go_ret
    exact retb HR.out HC.out
  | true =>
    have HRR := hide (show rightN n b = true by rw [hn]; exact hr)
    obtain ⟨bn, rfl, hbn, h416⟩ := right_nat2 hr
    have hl1000 : n ≤ 16 := by omega
    rw [← hn] at hbn
    have HR := hide (show isPlain l (bn : Int) = decide (plainP l bn) by unfold isPlain; rw [hr]; rfl)
    clear hr hn h416
    go_enter Tryd.func26, Tryd.ntmps26
    go_wp2_with (go_at_call 36; refine (right_any _ _ _ _ true HRR.out _).mono ?_; rintro e w1 ⟨rfl, ho⟩; have HC := hide (HO.out.trans ho); have HV := hide (HV.out.only ho (by simp)); have HBX := hide (HBX.out.only ho (by simp)); have c0 := HBX.out.cell 0; have c1 := HBX.out.cell 1; simp at c0 c1; clear ho)
    go_loopw [11] (fun i wr => ∃ k : Nat, k ≤ n ∧ i = .int .i64 k ∧ Hid (∀ j, j < k → (l.getD j 0).toNat &&& maskN j bn = (l.getD j 0).toNat) ∧ w1 = wr) (fun i _ => n - (intOf i).toNat)
    case atStart => exact ⟨0, Nat.zero_le _, rfl, hide (fun j hj => by omega), rfl⟩
    case round =>
      obtain ⟨k, hk, rfl, HS, rfl⟩ := hrel
      by_cases hlt : k < n
      · have hltI : (k : Int) < n := by omega
        have hg1 := getD_some (l := l) (k := k) (by rw [← HN.out]; exact hlt)
        obtain ⟨g, o, rfl, _, hg, hcell⟩ := HV.out.at_.2.2.2 k _ (ints_get (byts_get hg1))
        have hc1 := UInt8.toNat_lt (l.getD k 0)
        obtain ⟨c, hcc⟩ : ∃ c, c = (l.getD k 0).toNat := ⟨_, rfl⟩
        obtain ⟨M, hMM⟩ : ∃ M, M = maskN k bn := ⟨_, rfl⟩
        rw [← hcc] at hcell hc1
        have hM := mask_lt k bn
        have han := andnot0 c k bn hc1
        rw [← hMM] at hM han
        have hand := u8_andNot_nat c M hc1 hM
        have HK := hide (fun W => hMM ▸ mask_any k bn W (by omega) (by omega))
        have HC' := hide hcc
        have HMM := hide hMM
        by_cases he : c &&& M = c
        · have h0 := han.2 he
          have HE := hide he
          rw [h0] at hand
          clear he h0 hcc hMM hM hg1 hc1 han
          go_wp2_with (go_at_call 37; refine (HK.out _).mono ?_; rintro e w1 ⟨rfl, rfl⟩)
          go_roundw
          case rel => exact ⟨k + 1, by omega, by go_num, hide (fun j hj => by
            by_cases hjk : j = k
            · subst hjk; rw [← HC'.out, ← HMM.out]; exact HE.out
            · exact HS.out j (by omega)), (by first | rfl | trivial)⟩
          case measure => simp [intOf]; omega
        · have HE := hide he
          have hne : (c &&& (255 - M)) ≠ 0 := fun h => he (han.1 h)
          have hneI : ¬ ((c &&& (255 - M) : Nat) : Int) = 0 := by omega
          generalize c &&& (255 - M) = z at *
          clear he hne hcc hMM hM hg1 hc1 han
          go_wp2_with (go_at_call 37; refine (HK.out _).mono ?_; rintro e w1 ⟨rfl, rfl⟩)
          go_ret
          refine retb (HR.out.trans (decide_eq_false fun h => ?_)) HC.out
          have := h k (by rw [← HN.out]; exact hlt)
          rw [← HC'.out, ← HMM.out] at this
          exact HE.out this
      · obtain rfl : k = n := by omega
        have hge : ¬ (k : Int) < k := by omega
        go_wp2_with fail
        go_ret
        exact retb (HR.out.trans (decide_eq_true fun j hj => HS.out j (by rw [HN.out]; exact hj))) HC.out
end
section
open Go.RowKit Go.Deep

theorem take_cells {l m : List UInt8} {k : Nat} {x : Int} (hk : k < m.length) (hx : x = ((m.getD k 0).toNat : Int)) : ints .u8 (byts (m.take k)) ++ [.int .u8 x] = ints .u8 (byts (m.take (k + 1))) := by
  subst hx
  rw [List.take_add_one, getD_some hk, byts_append]
  simp [ints, byts]
end
section
open Go.RowKit Go.Deep

def TupPost (l : List UInt8) (b : Int) (w : World) (e : Ending) (w' : World) : Prop := ∃ v, e = .returned (.tuple #[.agg #[v, .int .i64 b], .int .i64 0]) ∧ Rd w' [] v (ints .u8 (byts l)) ∧ Only [] w w'

set_option maxRecDepth 100000 in
set_option maxHeartbeats 6400000 in
theorem Plain_yes (v : Value) (l : List UInt8) (b : Int) (N : List Nat) (w : World) (hv : Rd w N v (ints .u8 (byts l))) (hr : rightV l b = true) :
    Calls Tryd.prog 18 #[.agg #[v, .int .i64 b]] w (TupPost (plainV l b.toNat) b w) := by
  have HO := hide (((Only.refl [] w).alloc (.cells #[v, .int .i64 b] 30)).alloc (.cells #[.slice none 0 0, .int .i64 0] 30))
  have HBX := hide ((Blk.new w 30 #[v, .int .i64 b]).alloc (.cells #[.slice none 0 0, .int .i64 0] 30))
  have HBR := hide (Blk.new (w.alloc (.cells #[v, .int .i64 b] 30)) 30 #[.slice none 0 0, .int .i64 0])
  simp only [World.size_alloc] at HBR
  have HV := hide (hv.less (N' := []) (fun x hx => by cases hx))
  obtain ⟨A, cap, rfl, hcp, hcm⟩ := hv.formb
  obtain ⟨bn, rfl, hbn, h416⟩ := right_nat2 hr
  rw [Int.toNat_natCast]
  have HRR := hide (show rightN l.length bn = true from hr)
  obtain ⟨n, hn⟩ : ∃ n, n = l.length := ⟨_, rfl⟩
  rw [← hn] at HV HBX HBR HO HRR hcp hbn h416 ⊢
  have HN := hide hn
  have hl16 : n ≤ 16 := by omega
  have hb128 : bn ≤ 128 := by omega
  clear hv hr hn h416
  obtain ⟨i0, hi, hz0, hz1, hz2⟩ := info_parts (show (Tryd.prog.info? 5).map (fun i => (i.zero, i.size, i.bytes)) = some (some (.int .u8 0), 1, 1) by kernel_rfl)
  have hmk : ∀ W, (Instr.makeSlice 23 (.int .i64 0) (.int .i64 (n : Int))).run Tryd.prog W = .ok (.slice (some ⟨W.heap.size, 0, none⟩) 0 n) (W.alloc (.cells (Array.replicate n (.int .u8 0)) 5)) := by
    intro W
    exact run_make_row W 23 5 i0 _ Tryd.underlying23 hi hz0 hz1 rfl .i64 .i64 0 n (Nat.zero_le _) (by rw [hz2]; omega) (by omega)
  go_enter Tryd.func18, Tryd.ntmps18
  go_wp2_with (go_at_call 36; refine (right_any _ _ _ _ true HRR.out _).mono ?_; rintro e w1 ⟨rfl, ho⟩; have HC := hide (HO.out.trans ho); have HBR := hide (HBR.out.only ho (by simp)); have HBX := hide (HBX.out.only ho (by simp)); have c0 := HBX.out.cell 0; have c1 := HBX.out.cell 1; have d0 := (HBX.out.alloc (.cells (Array.replicate n (.int .u8 0)) 5)).cell 0; simp at c0 c1 d0; clear ho)
  clear c0 c1 d0
  have HOW := hide (World.ownsRow_made (base := w1.heap.size) w1 (Array.replicate n (.int .u8 0)) n (Nat.le_refl _) (by unfold maxLen; omega) (e := 5) (size := 1) (by simp))
  have HX0 := hide ((Only.refl [] w1).alloc (.cells (Array.replicate n (.int .u8 0)) 5))
  have hGB : w.heap.size + 1 < w1.heap.size := HBR.out.lt
  generalize w1.alloc (.cells (Array.replicate n (.int .u8 0)) 5) = w0 at *
  obtain ⟨B, hB⟩ : ∃ B, B = w1.heap.size := ⟨_, rfl⟩
  rw [← hB] at HOW hGB ⊢
  have HB := hide hB
  obtain ⟨G, hG⟩ : ∃ G, G = w.heap.size := ⟨_, rfl⟩
  rw [← hG] at HBX HBR hGB ⊢
  have HG := hide hG
  clear hmk hB hG
  go_loopw [4, 18] (fun v i wr => ∃ k : Nat, k ≤ n ∧ i = .int .i64 k ∧ Hid (wr.ownsRow B 5 1 v k (ints .u8 (byts ((plainV l bn).take k)))) ∧ Hid (Only [] w1 wr)) (fun _ i _ => n - (intOf i).toNat)
  case atStart => exact ⟨0, Nat.zero_le _, rfl, HOW, HX0⟩
  case round =>
    obtain ⟨k, hk, rfl, how, HX⟩ := hrel
    have HBX2 := hide (HBX.out.only HX.out (by simp))
    have HBR2 := hide (HBR.out.only HX.out (by simp))
    have c0 := HBX2.out.cell 0
    have c1 := HBX2.out.cell 1
    simp at c0 c1
    obtain ⟨Av, cv, rfl, hjc, hcm⟩ := own_form how.out
    by_cases hlt : k < n
    · have hltI : (k : Int) < n := by omega
      have hg1 := getD_some (l := l) (k := k) (by rw [← HN.out]; exact hlt)
      obtain ⟨g, o, rfl, _, hg, hcell⟩ := (HV.out.only (HC.out.trans HX.out) (by simp)).at_.2.2.2 k _ (ints_get (byts_get hg1))
      have hc1 := UInt8.toNat_lt (l.getD k 0)
      have hpn := plain_nat (l := l) (b := bn) (k := k) (by rw [← HN.out]; exact hlt)
      obtain ⟨c, hcc⟩ : ∃ c, c = (l.getD k 0).toNat := ⟨_, rfl⟩
      obtain ⟨M, hMM⟩ : ∃ M, M = maskN k bn := ⟨_, rfl⟩
      rw [← hcc] at hcell hc1 hpn
      rw [← hMM] at hpn
      have hM := mask_lt k bn
      rw [← hMM] at hM
      have hand := u8_and_nat c M hc1 hM
      have HK := hide (fun W => hMM ▸ mask_any k bn W (by omega) (by omega))
      obtain ⟨z, hz⟩ : ∃ z, z = c &&& M := ⟨_, rfl⟩
      rw [← hz] at hand hpn
      have HPN := hide (take_cells (l := l) (m := plainV l bn) (k := k) (x := (z : Int)) (by rw [plain_length, ← HN.out]; exact hlt) (by rw [hpn]))
      have HSZ := hide HX.out.size
      have HOW2 := hide (World.ownsRow.alloc how.out (.cells #[.int .u8 (z : Int)] 5))
      have HX2 := hide (HX.out.alloc (.cells #[.int .u8 (z : Int)] 5))
      have HRN := hide (reads_one wr 5 (.int .u8 (z : Int)) (wr.heap.size + 1) (Nat.lt_succ_self _))
      clear hcc hMM hM hg1 hc1 hpn hz
      go_wp2_with (first
        | (go_at_call 37; refine (HK.out _).mono ?_; rintro e w1 ⟨rfl, rfl⟩)
        | (at_builtin; refine wpList_append_any _ rfl (.tmp 23) (.tmp 30) 23 rfl B 5 i0 (.int .u8 0) 1 1 Tryd.underlying23 hi hz0 hz1 hz2 rfl (by decide) _ k _ rfl HOW2.out _ _ 1 1 [.int .u8 (z : Int)] rfl HRN.out (by simp [Value.oneCell']) (by unfold maxLen; omega) (by omega) (by have := HSZ.out; rw [← HB.out] at this; simp; omega) ?_; intro v1 w3 hown1 hg1 _; rw [HPN.out] at hown1; have HOW3 := hide hown1; have HX3 := hide (HX2.out.grown hg1 (fun j hj => .inr (by have h5 := own_block_ge HOW2.out hj; rw [HB.out] at h5; exact h5))); clear hown1 hg1))
      go_roundw
      case rel => exact ⟨k + 1, by omega, by go_num, HOW3, HX3⟩
      case measure => simp [intOf]; omega
    · obtain rfl : k = n := by omega
      have hge : ¬ (k : Int) < k := by omega
      have hr0 := HBR2.out.cell 0
      have hr1 := HBR2.out.cell 1
      simp at hr0 hr1
      have hf0 := HBR2.out.frozen 0
      have hf1 := HBR2.out.frozen 1
      have HF := hide (((HBR2.out.set_ 0 (.slice Av k cv)).set_ 1 (.int .i64 (bn : Int))))
      go_wp2_with fail
      refine bodyPost_ret (results_cell_two rfl _ _ (G + 1) 30 _ (0, 0) _ rfl HF.out Tryd.underlying30 rfl (by kernel_rfl)) rfl ?_
      have hRD := (Rd.of_own (N := [G + 1]) how.out (by intro x hx; rw [List.mem_singleton.1 hx]; exact hGB)).1
      rw [List.take_of_length_le (by rw [plain_length, ← HN.out]; omega)] at hRD
      have HS2 : Only [G + 1] wr _ := (((Only.refl [G + 1] wr).setCell (p := ⟨G + 1, 0, none⟩) (.inl (by simp)) (.slice Av k cv)).setCell (p := ⟨G + 1, 1, none⟩) (.inl (by simp)) (.int .i64 (bn : Int)))
      exact ⟨_, rfl, (hRD.only HS2 (fun x hx => hx)).less (fun x hx => by cases hx), ((HC.out.trans HX.out).setCell (p := ⟨G + 1, 0, none⟩) (.inr (by rw [← HG.out]; simp)) _).setCell (p := ⟨G + 1, 1, none⟩) (.inr (by rw [← HG.out]; simp)) _⟩
end
end Go.Proofs.YthecnaclfhfilaaDoor

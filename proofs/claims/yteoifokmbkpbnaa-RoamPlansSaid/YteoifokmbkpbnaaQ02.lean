/-
  Walks and plain words (texts Sky3, Sky4, Sky5). No condition beyond those that each theorem states.
-/
import Derived.StillTailTactics
import Derived.Test.YteoifokmbkpbnaaQ01
namespace Go.Proofs.Yteoifokmbkpbnaa
section
open Go.RowKit Go.Deep

def ptc (p : Int × Int) : List Value := [.int .i64 p.1, .int .i64 p.2]
def mastsV (l : List (Int × Int)) : Bool := decide (1 ≤ l.length ∧ l.length ≤ 64) && l.all okP
/-- The index of the nearest one of the first k. -/
def nb (l : List (Int × Int)) (p : Int × Int) : Nat → Nat
  | 0 => 0
  | k + 1 => if farV (l.getD k (0, 0)) p < farV (l.getD (nb l p k) (0, 0)) p then k else nb l p k
theorem nb_lt (l : List (Int × Int)) (p : Int × Int) : ∀ k, 0 < k → nb l p k < k
  | 1, _ => by unfold nb; split <;> simp [nb]
  | k + 2, _ => by
    have := nb_lt l p (k + 1) (by omega)
    unfold nb
    split <;> omega
def nearV (l : List (Int × Int)) (p : Int × Int) : Nat := nb l p l.length
theorem farV_comm (p q : Int × Int) : farV p q = farV q p := by
  unfold farV
  rw [← Int.neg_mul_neg (p.1 - q.1), ← Int.neg_mul_neg (p.2 - q.2), Int.neg_sub, Int.neg_sub]

theorem get_lt {α : Type} (l : List α) (d : α) {i : Nat} (h : i < l.length) : l[i]? = some (l.getD i d) := by
  rw [List.getD_eq_getElem?_getD, List.getElem?_eq_getElem h]; rfl

/-- The cells of a point in a slice of points. -/
theorem pts_cell {w : World} {N : List Nat} {g o n cap : Nat} {l : List (Int × Int)} (h : RdS 2 ptc w N (.slice (some ⟨g, o, none⟩) n cap) l) {i : Nat} (hi : i < l.length) :
    w.cell? ⟨g, o + i * 2, none⟩ = some (.int .i64 (l.getD i (0, 0)).1) ∧ w.cell? ⟨g, o + i * 2 + 1, none⟩ = some (.int .i64 (l.getD i (0, 0)).2) := by
  have h1 := h.cell (get_lt l (0, 0) hi) (j := 0) (u := .int .i64 (l.getD i (0, 0)).1) rfl
  have h2 := h.cell (get_lt l (0, 0) hi) (j := 1) (u := .int .i64 (l.getD i (0, 0)).2) rfl
  exact ⟨h1, by rw [Nat.add_assoc]; exact h2⟩

set_option maxRecDepth 100000 in
set_option maxHeartbeats 1600000 in
theorem masts_ref (w : World) (N : List Nat) (v : Value) (l : List (Int × Int)) (hv : RdS 2 ptc w N v l) (hl : l.length ≤ 1000) :
    Calls Try.prog 43 #[v] w (AndPost (mastsV l) w) := by
  obtain ⟨A, cap, rfl, hc, hm⟩ := hv.form
  unfold maxLen at hm
  have HV := hide hv
  obtain ⟨n, hn⟩ : ∃ n, n = l.length := ⟨_, rfl⟩
  have HN := hide hn
  rw [← hn] at hl hc HV ⊢
  clear hv hn
  go_enter Try.func43, Try.ntmps43
  go_wp2_with fail
  go_loopw [3] (fun i wr => ∃ k : Nat, k ≤ n ∧ i = .int .i64 k ∧ Hid (∀ j, j < k → okP (l.getD j (0, 0)) = true) ∧ Hid (Only [] w wr)) (fun i _ => n - (intOf i).toNat)
  case atStart => exact ⟨0, Nat.zero_le _, rfl, hide (fun j hj => by omega), hide (Only.refl _ _)⟩
  case round =>
    obtain ⟨k, hk, rfl, hok, ho⟩ := hrel
    by_cases hlt : k < n
    · have hlt' : (k : Int) < n := by omega
      obtain ⟨g, o, rfl, _, hg⟩ := HV.out.addr (by rw [← HN.out]; omega)
      obtain ⟨c1, c2⟩ := pts_cell (HV.out.only ho.out (by simp)) (show k < l.length by rw [← HN.out]; exact hlt)
      have HC := hide (refright_any wr (l.getD k (0, 0)))
      unfold pt at HC
      generalize hp : l.getD k (0, 0) = p at *
      have HP := hide hp
      clear hp
      cases hb : okP p with
      | true =>
        have HB := hide hb
        clear hb
        go_wp2_with (go_at_call 57; refine HC.out.mono ?_; rintro e w2 ⟨rfl, ho2⟩; have HO2 := hide (ho.out.trans ho2); rw [HB.out]; clear ho2)
        go_roundw
        case rel => exact ⟨k + 1, by omega, by go_num, hide (fun j hj => by
          rcases Nat.lt_or_ge j k with h | h
          · exact hok.out j h
          · rw [show j = k by omega, HP.out]; exact HB.out), HO2⟩
        case measure => simp [intOf]; omega
      | false =>
        have HB := hide hb
        have hf : mastsV l = false := by
          unfold mastsV
          rw [Bool.and_eq_false_iff]
          right
          rw [List.all_eq_false]
          exact ⟨p, by rw [← HP.out, List.getD_eq_getElem?_getD, List.getElem?_eq_getElem (by rw [← HN.out]; exact hlt)]; exact List.getElem_mem _, by rw [HB.out]; simp⟩
        have HF := hide hf
        clear hb hf
        go_wp2_with (go_at_call 57; refine HC.out.mono ?_; rintro e w2 ⟨rfl, ho2⟩; have HO2 := hide (ho.out.trans ho2); rw [HB.out]; clear ho2)
        go_ret
        exact andpost HF.out HO2.out
    · have hlt' : ¬ (k : Int) < n := by omega
      have hall : l.all okP = true := by
        rw [List.all_eq_true]
        intro x hx
        obtain ⟨j, hj, rfl⟩ := List.getElem_of_mem hx
        have := hok.out j (by have := HN.out; omega)
        rwa [List.getD_eq_getElem?_getD, List.getElem?_eq_getElem hj] at this
      have hmv : mastsV l = decide (1 ≤ n ∧ n ≤ 64) := by unfold mastsV; rw [hall, Bool.and_true, ← HN.out]
      have HMV := hide hmv
      clear hall hmv
      by_cases h1 : 1 ≤ n
      · by_cases h2 : n ≤ 64
        · have h2' : (n : Int) ≤ 64 := by omega
          have h1' : (1 : Int) ≤ n := by omega
          have HD := hide (decide_eq_true (show 1 ≤ n ∧ n ≤ 64 from ⟨h1, h2⟩))
          go_wp2_with fail
          go_ret
          exact andpost (HMV.out.trans HD.out) ho.out
        · have h2' : decide ((n : Int) ≤ 64) = false := by rw [decide_eq_false_iff_not]; omega
          have h1' : (1 : Int) ≤ n := by omega
          have HD := hide (decide_eq_false (show ¬ (1 ≤ n ∧ n ≤ 64) from fun h => h2 h.2))
          clear h2
          go_wp2_with fail
          go_ret
          exact andpost (HMV.out.trans HD.out) ho.out
      · have h1' : decide ((1 : Int) ≤ n) = false := by rw [decide_eq_false_iff_not]; omega
        have HD := hide (decide_eq_false (show ¬ (1 ≤ n ∧ n ≤ 64) from fun h => h1 h.1))
        clear h1
        go_wp2_with fail
        go_ret
        exact andpost (HMV.out.trans HD.out) ho.out

set_option maxRecDepth 100000 in
set_option maxHeartbeats 1600000 in
theorem masts_any (w : World) (N : List Nat) (v : Value) (l : List (Int × Int)) (hv : RdS 2 ptc w N v l) (hl : l.length ≤ 1000) (hfit : ∀ p ∈ l, Fit p) :
    Calls Try.prog 59 #[v] w (AndPost (mastsV l) w) := by
  obtain ⟨A, cap, rfl, hc, hm⟩ := hv.form
  unfold maxLen at hm
  have HV := hide hv
  obtain ⟨n, hn⟩ : ∃ n, n = l.length := ⟨_, rfl⟩
  have HN := hide hn
  rw [← hn] at hl hc HV ⊢
  have HFIT := hide hfit
  clear hv hn hfit
  by_cases h1 : 1 ≤ n
  case neg =>
    have h1' : (n : Int) < 1 := by omega
    have HF := hide (show mastsV l = false by unfold mastsV; rw [← HN.out, decide_eq_false (show ¬ (1 ≤ n ∧ n ≤ 64) from fun h => h1 h.1)]; rfl)
    clear h1
    go_enter Try.func59, Try.ntmps59
    go_wp2_with fail
    go_ret
    exact andpost HF.out (Only.refl _ _)
  have h1' : ¬ (n : Int) < 1 := by omega
  have h1'' : decide ((n : Int) < 1) = false := decide_eq_false h1'
  by_cases h2 : n ≤ 64
  case neg =>
    have h2' : (64 : Int) < n := by omega
    have HF := hide (show mastsV l = false by unfold mastsV; rw [← HN.out, decide_eq_false (show ¬ (1 ≤ n ∧ n ≤ 64) from fun h => h2 h.2)]; rfl)
    clear h1 h2
    go_enter Try.func59, Try.ntmps59
    go_wp2_with fail
    go_ret
    exact andpost HF.out (Only.refl _ _)
  have h2' : ¬ (64 : Int) < n := by omega
  go_enter Try.func59, Try.ntmps59
  go_wp2_with fail
  go_loopw [15] (fun i wr => ∃ k : Nat, k ≤ n ∧ i = .int .i64 k ∧ Hid (∀ j, j < k → okP (l.getD j (0, 0)) = true) ∧ Hid (Only [] w wr)) (fun i _ => n - (intOf i).toNat)
  case atStart => exact ⟨0, Nat.zero_le _, rfl, hide (fun j hj => by omega), hide (Only.refl _ _)⟩
  case round =>
    obtain ⟨k, hk, rfl, hok, ho⟩ := hrel
    by_cases hlt : k < n
    · have hlt' : (k : Int) < n := by omega
      obtain ⟨g, o, rfl, _, hg⟩ := HV.out.addr (by rw [← HN.out]; omega)
      obtain ⟨c1, c2⟩ := pts_cell (HV.out.only ho.out (by simp)) (show k < l.length by rw [← HN.out]; exact hlt)
      have hmem : l.getD k (0, 0) ∈ l := by
        rw [List.getD_eq_getElem?_getD, List.getElem?_eq_getElem (by rw [← HN.out]; exact hlt)]; exact List.getElem_mem _
      have HMEM := hide hmem
      clear hmem
      generalize hp : l.getD k (0, 0) = p at *
      have HP := hide hp
      have HC := hide (right_any (wr.alloc (.cells #[.int .i64 p.1, .int .i64 p.2] 95)) p (HFIT.out p HMEM.out))
      have HOA := hide (ho.out.alloc (.cells #[.int .i64 p.1, .int .i64 p.2] 95))
      unfold pt at HC
      clear hp
      cases hb : okP p with
      | true =>
        have HB := hide hb
        clear hb
        go_wp2_with (go_at_call 63; refine HC.out.mono ?_; rintro e w2 ⟨rfl, ho2⟩; have HO2 := hide (HOA.out.trans ho2); rw [HB.out]; clear ho2)
        go_roundw
        case rel => exact ⟨k + 1, by omega, by go_num, hide (fun j hj => by
          rcases Nat.lt_or_ge j k with h | h
          · exact hok.out j h
          · rw [show j = k by omega, HP.out]; exact HB.out), HO2⟩
        case measure => simp [intOf]; omega
      | false =>
        have HB := hide hb
        have hf : mastsV l = false := by
          unfold mastsV
          rw [Bool.and_eq_false_iff]
          right
          rw [List.all_eq_false]
          exact ⟨p, HMEM.out, by rw [HB.out]; simp⟩
        have HF := hide hf
        clear hb hf
        go_wp2_with (go_at_call 63; refine HC.out.mono ?_; rintro e w2 ⟨rfl, ho2⟩; have HO2 := hide (HOA.out.trans ho2); rw [HB.out]; clear ho2)
        go_ret
        exact andpost HF.out HO2.out
    · have hlt' : ¬ (k : Int) < n := by omega
      have hall : l.all okP = true := by
        rw [List.all_eq_true]
        intro x hx
        obtain ⟨j, hj, rfl⟩ := List.getElem_of_mem hx
        have := hok.out j (by have := HN.out; omega)
        rwa [List.getD_eq_getElem?_getD, List.getElem?_eq_getElem hj] at this
      have hmv : mastsV l = true := by unfold mastsV; rw [hall, Bool.and_true, ← HN.out]; exact decide_eq_true ⟨h1, h2⟩
      have HMV := hide hmv
      clear hall hmv
      go_wp2_with fail
      go_ret
      exact andpost HMV.out ho.out

theorem masts_mem {l : List (Int × Int)} (h : mastsV l = true) : (∀ p ∈ l, okP p = true) ∧ 1 ≤ l.length ∧ l.length ≤ 64 := by
  unfold mastsV at h
  rw [Bool.and_eq_true, List.all_eq_true] at h
  have := of_decide_eq_true h.1
  exact ⟨h.2, this.1, this.2⟩

def NumPost (n : Int) (w : World) (e : Ending) (w' : World) : Prop := e = .returned (.int .i64 n) ∧ Only [] w w'
theorem numpost {n n' : Int} {w w' : World} (h : n = n') (ho : Only [] w w') : NumPost n w (.returned (.int .i64 n')) w' := ⟨by rw [h], ho⟩

set_option maxRecDepth 100000 in
set_option maxHeartbeats 3200000 in
theorem nearest_ref (w : World) (N : List Nat) (v : Value) (l : List (Int × Int)) (p : Int × Int) (hv : RdS 2 ptc w N v l) (hl : l.length ≤ 1000) (hok : ∀ q ∈ l, okP q = true) (hp : okP p = true) (h0 : 0 < l.length) :
    Calls Try.prog 49 #[v, pt p] w (NumPost (nearV l p) w) := by
  obtain ⟨A, cap, rfl, hc, hm⟩ := hv.form
  unfold maxLen at hm
  obtain ⟨g, o, rfl, _, hg⟩ := hv.addr h0
  have HV := hide hv
  obtain ⟨n, hn⟩ : ∃ n, n = l.length := ⟨_, rfl⟩
  have HN := hide hn
  rw [← hn] at hl hc HV h0 ⊢
  have HOK := hide (show ∀ i, i < n → okP (l.getD i (0, 0)) = true from fun i hi => hok _ (by
    rw [List.getD_eq_getElem?_getD, List.getElem?_eq_getElem (by rw [← HN.out]; exact hi)]; exact List.getElem_mem _))
  have HPB := hide (okP_bd hp)
  have HP := hide hp
  clear hv hn hok hp
  have HBP := hide (Blk.new w 99 #[.int .i64 p.1, .int .i64 p.2])
  have HO0 := hide ((Only.refl [] w).alloc (.cells #[.int .i64 p.1, .int .i64 p.2] 99))
  have hgw : g ≠ w.heap.size := by omega
  unfold pt
  go_enter Try.func49, Try.ntmps49
  go_wp2_with fail
  have hn1 : nb l p 1 = 0 := by unfold nb; split <;> rfl
  go_loopw [6, 5] (fun i b wr => ∃ k : Nat, 1 ≤ k ∧ k ≤ n ∧ i = .int .i64 k ∧ b = .int .i64 (nb l p k : Nat) ∧ Hid (Only [] (w.alloc (.cells #[.int .i64 p.1, .int .i64 p.2] 99)) wr)) (fun i _ _ => n - (intOf i).toNat)
  case atStart => exact ⟨1, Nat.le_refl _, h0, rfl, by rw [hn1]; rfl, hide (Only.refl _ _)⟩
  case round =>
    obtain ⟨k, hk1, hk, rfl, rfl, ho⟩ := hrel
    have HO := hide (HO0.out.trans ho.out)
    by_cases hlt : k < n
    · have hlt' : (k : Int) < n := by omega
      have hbk := nb_lt l p k (by omega)
      have hsuc : nb l p (k + 1) = if farV (l.getD k (0, 0)) p < farV (l.getD (nb l p k) (0, 0)) p then k else nb l p k := rfl
      have HS := hide hsuc
      clear hsuc
      generalize nb l p k = b at *
      have hbn : b < n := by omega
      have hbn' : (b : Int) < n := by omega
      have hb1 := okP_bd (HOK.out k hlt)
      have hb2 := okP_bd (HOK.out b hbn)
      obtain ⟨c1, c2⟩ := pts_cell (HV.out.only HO.out (by simp)) (show k < l.length by rw [← HN.out]; exact hlt)
      obtain ⟨d1, d2⟩ := pts_cell (HV.out.only HO.out (by simp)) (show b < l.length by rw [← HN.out]; exact hbn)
      have HBW := hide (HBP.out.only ho.out (by simp))
      have p1 := HBW.out.cell 0
      have p2 := HBW.out.cell 1
      simp at p1 p2
      generalize hx : l.getD k (0, 0) = x at *
      generalize hy : l.getD b (0, 0) = y at *
      have HFX := hide (show ∀ W, _ from fun W => reffar_any W x p (by omega) (by omega) (by have := HPB.out; omega) (by have := HPB.out; omega))
      have HFY := hide (show ∀ W, _ from fun W => reffar_any W y p (by omega) (by omega) (by have := HPB.out; omega) (by have := HPB.out; omega))
      unfold pt at HFX HFY
      clear hx hy hb1 hb2
      have hgl : g < wr.heap.size := Nat.lt_of_lt_of_le hg HO.out.size
      have hwl : w.heap.size < wr.heap.size := HBW.out.lt
      go_wp2_with fail
      go_region_held3 (fun w' => w'.cell? ⟨g, o + k * 2, none⟩ = some (.int .i64 x.1) ∧ w'.cell? ⟨g, o + k * 2 + 1, none⟩ = some (.int .i64 x.2) ∧ w'.cell? ⟨g, o + b * 2, none⟩ = some (.int .i64 y.1) ∧ w'.cell? ⟨g, o + b * 2 + 1, none⟩ = some (.int .i64 y.2) ∧ w'.cell? ⟨w.heap.size, 0, none⟩ = some (.int .i64 p.1) ∧ w'.cell? ⟨w.heap.size, 1, none⟩ = some (.int .i64 p.2))
        (first | exact ⟨c1, c2, d1, d2, p1, p2⟩ | exact ⟨e1, e2, e3, e4, e5, e6⟩ | exact ⟨f1, f2, f3, f4, f5, f6⟩)
        (first
        | (go_at_call_of 65 (Value.agg #[.int .i64 x.1, .int .i64 x.2]); refine (HFX.out _).mono ?_; rintro e wA ⟨rfl, hoA⟩; have HOA := hide (((Only.refl [] wr).drew).trans hoA); have e1 := (cell_only HOA.out hgl (by simp)).trans c1; have e2 := (cell_only HOA.out hgl (by simp)).trans c2; have e3 := (cell_only HOA.out hgl (by simp)).trans d1; have e4 := (cell_only HOA.out hgl (by simp)).trans d2; have e5 := (cell_only HOA.out hwl (by simp)).trans p1; have e6 := (cell_only HOA.out hwl (by simp)).trans p2; clear hoA)
        | (go_at_call_of 65 (Value.agg #[.int .i64 y.1, .int .i64 y.2]); refine (HFY.out _).mono ?_; rintro e wB ⟨rfl, hoB⟩; have HOB := hide (HOA.out.trans hoB); have f1 := (cell_only HOB.out hgl (by simp)).trans c1; have f2 := (cell_only HOB.out hgl (by simp)).trans c2; have f3 := (cell_only HOB.out hgl (by simp)).trans d1; have f4 := (cell_only HOB.out hgl (by simp)).trans d2; have f5 := (cell_only HOB.out hwl (by simp)).trans p1; have f6 := (cell_only HOB.out hwl (by simp)).trans p2; clear hoB))
      generalize hfx : farV x p = fx at *
      generalize hfy : farV y p = fy at *
      by_cases hcmp : fx < fy
      · have HSS := hide (show nb l p (k + 1) = k by rw [HS.out, if_pos hcmp])
        go_wp2_with fail
        go_roundw
        case rel => exact ⟨k + 1, by omega, by omega, by go_num, by rw [HSS.out], hide (ho.out.trans HOB.out)⟩
        case measure => simp [intOf]; omega
      · have HSS := hide (show nb l p (k + 1) = b by rw [HS.out, if_neg hcmp])
        go_wp2_with fail
        go_roundw
        case rel => exact ⟨k + 1, by omega, by omega, by go_num, by rw [HSS.out], hide (ho.out.trans HOB.out)⟩
        case measure => simp [intOf]; omega
    · have hlt' : ¬ (k : Int) < n := by omega
      obtain rfl : k = n := by omega
      have HEQ := hide (show ((nearV l p : Nat) : Int) = (nb l p k : Nat) by unfold nearV; rw [← HN.out])
      go_wp2_with fail
      go_ret
      exact numpost HEQ.out HO.out
end
section
open Go.RowKit Go.Deep

theorem nb_hit {l : List (Int × Int)} {p : Int × Int} {k : Nat} (h : farV (l.getD k (0, 0)) p < farV (l.getD (nb l p k) (0, 0)) p) : nb l p (k + 1) = k := if_pos h
theorem nb_miss {l : List (Int × Int)} {p : Int × Int} {k : Nat} (h : ¬ farV (l.getD k (0, 0)) p < farV (l.getD (nb l p k) (0, 0)) p) : nb l p (k + 1) = nb l p k := if_neg h
theorem flt_lt {a b : Nat} {x y : Int} (h1 : FI a x) (h2 : FI b y) : (FloatKind.f64.format.order a b == some .lt) = decide (x < y) := by
  rw [show FloatKind.f64.format.order a b = some (compare x y) from fi_order h1 h2]
  by_cases h : x < y
  · rw [decide_eq_true h, show compare x y = .lt from by
      show compareOfLessAndEq x y = _
      unfold compareOfLessAndEq
      rw [if_pos h]]
    rfl
  · rw [decide_eq_false h]
    have : compare x y ≠ .lt := by
      show compareOfLessAndEq x y ≠ _
      unfold compareOfLessAndEq
      rw [if_neg h]
      split <;> simp
    cases hc : compare x y with
    | lt => exact absurd hc this
    | eq => rfl
    | gt => rfl

set_option maxRecDepth 100000 in
set_option maxHeartbeats 3200000 in
theorem nearest_any (w : World) (N : List Nat) (v c : Value) (l : List (Int × Int)) (p : Int × Int) (hv : RdS 2 ptc w N v l) (hl : l.length ≤ 1000) (hok : ∀ q ∈ l, okP q = true) (hp : okP p = true) (hc : Cx c p.1 p.2) :
    Calls Try.prog 61 #[v, c] w (NumPost (nearV l p) w) := by
  obtain ⟨A, cap, rfl, hcap, hm⟩ := hv.form
  unfold maxLen at hm
  have HV := hide hv
  obtain ⟨n, hn⟩ : ∃ n, n = l.length := ⟨_, rfl⟩
  have HN := hide hn
  rw [← hn] at hl hcap HV ⊢
  have HOK := hide (show ∀ i, i < n → okP (l.getD i (0, 0)) = true from fun i hi => hok _ (by
    rw [List.getD_eq_getElem?_getD, List.getElem?_eq_getElem (by rw [← HN.out]; exact hi)]; exact List.getElem_mem _))
  have HPB := hide (okP_bd hp)
  have HC := hide hc
  clear hv hn hok hp hc
  go_enter Try.func61, Try.ntmps61
  go_wp2_with fail
  go_loopw [12, 5, 6] (fun i b f wr => ∃ (k : Nat) (r : Nat), k ≤ n ∧ i = .int .i64 k ∧ b = .int .i64 (nb l p k : Nat) ∧ f = .float .f64 r ∧ Hid (0 < k → FI r (farV (l.getD (nb l p k) (0, 0)) p)) ∧ Hid (Only [] w wr)) (fun i _ _ _ => n - (intOf i).toNat)
  case atStart => exact ⟨0, 0, Nat.zero_le _, rfl, rfl, rfl, hide (fun h => by omega), hide (Only.refl _ _)⟩
  case round =>
    obtain ⟨k, r, hk, rfl, rfl, rfl, hfi, ho⟩ := hrel
    by_cases hlt : k < n
    · have hlt' : (k : Int) < n := by omega
      obtain ⟨g, o, rfl, _, hg⟩ := HV.out.addr (by rw [← HN.out]; omega)
      obtain ⟨c1, c2⟩ := pts_cell (HV.out.only ho.out (by simp)) (show k < l.length by rw [← HN.out]; exact hlt)
      have hb1 := okP_bd (HOK.out k hlt)
      have HHIT := hide (@nb_hit l p k)
      have HMISS := hide (@nb_miss l p k)
      have hbk : 0 < k → nb l p k < k := nb_lt l p k
      generalize nb l p k = b at *
      generalize hx : l.getD k (0, 0) = x at *
      have HX := hide hx
      have HCX := hide hb1
      have HNUM := hide (show ∀ W, _ from fun W => number_any W x.1 x.2 (by omega) (by omega))
      have hOA := hide (ho.out.alloc (.cells #[.int .i64 x.1, .int .i64 x.2] 95))
      clear hx hb1
      by_cases hk0 : k = 0
      · have hkB : ((k : Int) == 0) = true := by rw [beq_iff_eq]; omega
        have HK0 := hide hk0
        clear hbk hk0
        go_wp2_with (first
          | (go_at_call 60; refine (HNUM.out _).mono ?_; rintro e wA ⟨cA, rfl, hcA, hoA⟩; have HOA := hide (hOA.out.trans hoA); obtain ⟨cS, hS, hcS⟩ := cx_sub HC.out hcA (by have := HPB.out; have := HCX.out; omega) (by have := HPB.out; have := HCX.out; omega); have HCS := hide hcS; clear hoA hcA hcS)
          | (go_at_call 67; refine (square_any _ cS _ _ HCS.out (by have := HPB.out; have := HCX.out; omega) (by have := HPB.out; have := HCX.out; omega)).mono ?_; rintro e wB ⟨rB, rfl, hrB, rfl⟩; have HRB := hide hrB; clear hrB))
        go_roundw
        case rel => exact ⟨k + 1, rB, by omega, by go_num, by
          have hk0 := HK0.out
          have : nb l p (k + 1) = k := by subst hk0; unfold nb; split <;> rfl
          rw [this], rfl, hide (fun _ => by
            have hk0 := HK0.out
            have : nb l p (k + 1) = k := by subst hk0; unfold nb; split <;> rfl
            rw [this, HX.out, farV_comm]; exact HRB.out), HOA⟩
        case measure => simp [intOf]; omega
      · have hkB : ((k : Int) == 0) = false := by rw [beq_eq_false_iff_ne]; omega
        have hr := hfi.out (by omega)
        have HR := hide hr
        have hbn := hbk (by omega)
        clear hr hbk
        go_upto_region 6 with (first
          | (go_at_call 60; refine (HNUM.out _).mono ?_; rintro e wA ⟨cA, rfl, hcA, hoA⟩; have HOA := hide (hOA.out.trans hoA); obtain ⟨cS, hS, hcS⟩ := cx_sub HC.out hcA (by have := HPB.out; have := HCX.out; omega) (by have := HPB.out; have := HCX.out; omega); have HCS := hide hcS; clear hoA hcA hcS)
          | (go_at_call 67; refine (square_any _ cS _ _ HCS.out (by have := HPB.out; have := HCX.out; omega) (by have := HPB.out; have := HCX.out; omega)).mono ?_; rintro e wB ⟨rB, rfl, hrB, rfl⟩; have HRB := hide (show FI rB (farV x p) by rw [farV_comm]; exact hrB); clear hrB))
        have hcmp := flt_lt HRB.out HR.out
        by_cases hc : farV x p < farV (l.getD b (0, 0)) p
        · rw [decide_eq_true hc] at hcmp
          have HSS := hide (HHIT.out hc)
          clear hc
          go_wp2_with fail
          go_roundw
          case rel => exact ⟨k + 1, rB, by omega, by go_num, by rw [HSS.out], rfl, hide (fun _ => by rw [HSS.out, HX.out]; exact HRB.out), HOA⟩
          case measure => simp [intOf]; omega
        · rw [decide_eq_false hc] at hcmp
          have HSS := hide (HMISS.out (by omega))
          clear hc
          go_wp2_with fail
          go_roundw
          case rel => exact ⟨k + 1, r, by omega, by go_num, by rw [HSS.out], rfl, hide (fun _ => by rw [HSS.out]; exact HR.out), HOA⟩
          case measure => simp [intOf]; omega
    · have hlt' : ¬ (k : Int) < n := by omega
      obtain rfl : k = n := by omega
      have HEQ := hide (show ((nearV l p : Nat) : Int) = (nb l p k : Nat) by unfold nearV; rw [← HN.out])
      go_wp2_with fail
      go_ret
      exact numpost HEQ.out ho.out

def TwoPost (n c : Int) (w : World) (e : Ending) (w' : World) : Prop := e = .returned (.tuple #[.int .i64 n, .int .i64 c]) ∧ Only [] w w'
theorem twopost {n n' c c' : Int} {w w' : World} (h : n = n') (hc : c = c') (ho : Only [] w w') : TwoPost n c w (.returned (.tuple #[.int .i64 n', .int .i64 c'])) w' := ⟨by rw [h, hc], ho⟩

set_option maxRecDepth 100000 in
set_option maxHeartbeats 1600000 in
theorem Nearest_any (w : World) (N : List Nat) (v : Value) (l : List (Int × Int)) (p : Int × Int) (hv : RdS 2 ptc w N v l) (hl : l.length ≤ 1000) (hfit : ∀ q ∈ l, Fit q) (hp : Fit p) :
    Calls Try.prog 47 #[v, pt p] w (TwoPost (if mastsV l && okP p then (nearV l p : Nat) else 0) (if mastsV l && okP p then 0 else 3) w) := by
  have HO := hide ((Only.refl [] w).alloc (.cells #[.int .i64 p.1, .int .i64 p.2] 95))
  have HB := hide (Blk.new w 95 #[.int .i64 p.1, .int .i64 p.2])
  have HM := hide (masts_any _ N v l (hv.only HO.out (by simp)) hl hfit)
  have HR := hide (show ∀ W, _ from fun W => right_any W p hp)
  have HNV := hide (show ∀ W c, Only [] w W → Cx c p.1 p.2 → mastsV l = true → okP p = true → _ from fun W c ho hc hm hk => nearest_any W N v c l p (hv.only ho (by simp)) hl (masts_mem hm).1 hk hc)
  have HPB := hide (fun h : okP p = true => okP_bd h)
  obtain ⟨A, cap, rfl, hc, hm⟩ := hv.form
  clear hv
  unfold pt at *
  cases hmv : mastsV l with
  | false =>
    have HMV := hide hmv
    clear hmv
    go_enter Try.func47, Try.ntmps47
    go_wp2_with (go_at_call 59; refine HM.out.mono ?_; rintro e w1 ⟨rfl, ho⟩; have HO1 := hide (HO.out.trans ho); rw [HMV.out]; clear ho)
    go_ret2
    exact twopost rfl rfl HO1.out
  | true =>
    have HMV := hide hmv
    clear hmv
    cases hpv : okP p with
    | false =>
      have HPV := hide hpv
      clear hpv
      go_enter Try.func47, Try.ntmps47
      go_wp2_with (first
        | (go_at_call 59; refine HM.out.mono ?_; rintro e w1 ⟨rfl, ho⟩; have HO1 := hide (HO.out.trans ho); have hB1 := HB.out.only ho (by simp); have k0 := hB1.cell 0; have k1 := hB1.cell 1; simp at k0 k1; rw [HMV.out]; clear ho hB1)
        | (go_at_call 63; refine (HR.out _).mono ?_; rintro e w2 ⟨rfl, ho⟩; have HO2 := hide (HO1.out.trans ho); rw [HPV.out]; clear ho))
      go_ret2
      exact twopost rfl rfl HO2.out
    | true =>
      have HPV := hide hpv
      have hpb := HPB.out hpv
      have HNUM := hide (show ∀ W, _ from fun W => number_any W p.1 p.2 (by omega) (by omega))
      clear hpv hpb
      go_enter Try.func47, Try.ntmps47
      go_wp2_with (first
        | (go_at_call 59; refine HM.out.mono ?_; rintro e w1 ⟨rfl, ho⟩; have HO1 := hide (HO.out.trans ho); have HB1 := hide (HB.out.only ho (by simp)); have k0 := HB1.out.cell 0; have k1 := HB1.out.cell 1; simp at k0 k1; rw [HMV.out]; clear ho)
        | (go_at_call 63; refine (HR.out _).mono ?_; rintro e w2 ⟨rfl, ho⟩; have HO2 := hide (HO1.out.trans ho); have hB2 := HB1.out.only ho (by simp); have j0 := hB2.cell 0; have j1 := hB2.cell 1; simp at j0 j1; rw [HPV.out]; clear ho hB2)
        | (go_at_call 60; refine (HNUM.out _).mono ?_; rintro e w3 ⟨c3, rfl, hc3, ho⟩; have HO3 := hide (HO2.out.trans ho); have HC3 := hide hc3; clear ho hc3)
        | (go_at_call 61; refine (HNV.out _ c3 HO3.out HC3.out HMV.out HPV.out).mono ?_; rintro e w4 ⟨rfl, ho⟩; have HO4 := hide (HO3.out.trans ho); clear ho))
      go_ret2
      exact twopost rfl rfl HO4.out
end
section
open Go.RowKit Go.Deep

abbrev Lg := Int × Int × Int
def lgc (g : Lg) : List Value := [.int .i64 g.1, .int .i64 g.2.1, .int .i64 g.2.2]
def zg : Lg := (0, 0, 0)
/-- Where one is behind k legs. -/
def pos (s : Int × Int) (l : List Lg) : Nat → Int × Int
  | 0 => s
  | k + 1 => ((pos s l k).1 + (l.getD k zg).1 * (l.getD k zg).2.2, (pos s l k).2 + (l.getD k zg).2.1 * (l.getD k zg).2.2)
def legOk (g : Lg) : Bool := decide (-1000 ≤ g.1 ∧ g.1 ≤ 1000) && decide (-1000 ≤ g.2.1 ∧ g.2.1 ≤ 1000) && decide (1 ≤ g.2.2 ∧ g.2.2 ≤ 10000)
def lok (s : Int × Int) (l : List Lg) (k : Nat) : Bool := legOk (l.getD k zg) && okP (pos s l (k + 1))
def routesV (s : Int × Int) (l : List Lg) : Bool := okP s && (decide (l.length ≤ 64) && (List.range l.length).all (lok s l))
def Fit3 (g : Lg) : Prop := (-9223372036854775808 ≤ g.1 ∧ g.1 ≤ 9223372036854775807) ∧ (-9223372036854775808 ≤ g.2.1 ∧ g.2.1 ≤ 9223372036854775807) ∧ (-9223372036854775808 ≤ g.2.2 ∧ g.2.2 ≤ 9223372036854775807)

theorem routes_lok {s : Int × Int} {l : List Lg} (h : routesV s l = true) : okP s = true ∧ l.length ≤ 64 ∧ ∀ k, k < l.length → lok s l k = true := by
  unfold routesV at h
  rw [Bool.and_eq_true, Bool.and_eq_true, List.all_eq_true] at h
  exact ⟨h.1, of_decide_eq_true h.2.1, fun k hk => h.2.2 k (List.mem_range.2 hk)⟩
theorem routes_true {s : Int × Int} {l : List Lg} (h1 : okP s = true) (h2 : l.length ≤ 64) (h3 : ∀ k, k < l.length → lok s l k = true) : routesV s l = true := by
  unfold routesV
  rw [Bool.and_eq_true, Bool.and_eq_true, List.all_eq_true]
  exact ⟨h1, decide_eq_true h2, fun k hk => h3 k (List.mem_range.1 hk)⟩
theorem routes_false {s : Int × Int} {l : List Lg} {k : Nat} (hk : k < l.length) (h : lok s l k = false) : routesV s l = false := by
  rw [Bool.eq_false_iff]
  intro hr
  rw [(routes_lok hr).2.2 k hk] at h
  cases h
theorem routes_long {s : Int × Int} {l : List Lg} (hk : 64 < l.length) : routesV s l = false := by
  rw [Bool.eq_false_iff]
  intro hr
  have := (routes_lok hr).2.1
  omega
theorem routes_start {s : Int × Int} {l : List Lg} (h : okP s = false) : routesV s l = false := by
  unfold routesV
  rw [h]; rfl
theorem legOk_bd {g : Lg} (h : legOk g = true) : (-1000 ≤ g.1 ∧ g.1 ≤ 1000) ∧ (-1000 ≤ g.2.1 ∧ g.2.1 ≤ 1000) ∧ 1 ≤ g.2.2 ∧ g.2.2 ≤ 10000 := by
  unfold legOk at h
  rw [Bool.and_eq_true, Bool.and_eq_true] at h
  have h1 := of_decide_eq_true h.1.1
  have h2 := of_decide_eq_true h.1.2
  have h3 := of_decide_eq_true h.2
  exact ⟨h1, h2, h3⟩
theorem mul_bd {x s : Int} (h1 : -1000 ≤ x) (h2 : x ≤ 1000) (h3 : 0 ≤ s) (h4 : s ≤ 10000) : -10000000 ≤ x * s ∧ x * s ≤ 10000000 := by
  have a1 : x * s ≤ 1000 * s := Int.mul_le_mul_of_nonneg_right h2 h3
  have a2 : -1000 * s ≤ x * s := Int.mul_le_mul_of_nonneg_right h1 h3
  omega

/-- The cells of a leg in a slice of legs. -/
theorem lgs_cell {w : World} {N : List Nat} {g o n cap : Nat} {l : List Lg} (h : RdS 3 lgc w N (.slice (some ⟨g, o, none⟩) n cap) l) {i : Nat} (hi : i < l.length) :
    w.cell? ⟨g, o + i * 3, none⟩ = some (.int .i64 (l.getD i zg).1) ∧ w.cell? ⟨g, o + i * 3 + 1, none⟩ = some (.int .i64 (l.getD i zg).2.1) ∧ w.cell? ⟨g, o + i * 3 + 2, none⟩ = some (.int .i64 (l.getD i zg).2.2) := by
  have h1 := h.cell (get_lt l zg hi) (j := 0) (u := .int .i64 (l.getD i zg).1) rfl
  have h2 := h.cell (get_lt l zg hi) (j := 1) (u := .int .i64 (l.getD i zg).2.1) rfl
  have h3 := h.cell (get_lt l zg hi) (j := 2) (u := .int .i64 (l.getD i zg).2.2) rfl
  exact ⟨h1, by rw [Nat.add_assoc]; exact h2, by rw [Nat.add_assoc]; exact h3⟩

set_option maxRecDepth 100000 in
set_option maxHeartbeats 3200000 in
theorem routes_ref (w : World) (N : List Nat) (v : Value) (s : Int × Int) (l : List Lg) (hv : RdS 3 lgc w N v l) (hl : l.length ≤ 1000) (hfit : ∀ g ∈ l, Fit3 g) :
    Calls Try.prog 42 #[pt s, v] w (AndPost (routesV s l) w) := by
  obtain ⟨A, cap, rfl, hc, hm⟩ := hv.form
  unfold maxLen at hm
  have HV := hide hv
  obtain ⟨n, hn⟩ : ∃ n, n = l.length := ⟨_, rfl⟩
  have HN := hide hn
  rw [← hn] at hl hc HV ⊢
  have HFIT := hide hfit
  have HR := hide (show ∀ W p, _ from fun W p => refright_any W p)
  have HB0 := hide (Blk.new w 99 #[.int .i64 s.1, .int .i64 s.2])
  have HO0 := hide ((Only.refl [] w).alloc (.cells #[.int .i64 s.1, .int .i64 s.2] 99))
  unfold pt at HR ⊢
  clear hv hn hfit
  cases hs : okP s with
  | false =>
    have HF := hide (routes_start (l := l) hs)
    have HS := hide hs
    clear hs
    go_enter Try.func42, Try.ntmps42
    go_wp2_with (go_at_call 57; refine (HR.out _ s).mono ?_; rintro e w1 ⟨rfl, ho⟩; have HO1 := hide (HO0.out.trans ho); rw [HS.out]; clear ho)
    go_ret
    exact andpost HF.out HO1.out
  | true =>
  have HS := hide hs
  clear hs
  by_cases h64 : n ≤ 64
  case neg =>
    have HF := hide (routes_long (s := s) (l := l) (by rw [← HN.out]; omega))
    have h64' : (64 : Int) < n := by omega
    clear h64
    go_enter Try.func42, Try.ntmps42
    go_wp2_with (go_at_call 57; refine (HR.out _ s).mono ?_; rintro e w1 ⟨rfl, ho⟩; have HO1 := hide (HO0.out.trans ho); rw [HS.out]; clear ho)
    go_ret
    exact andpost HF.out HO1.out
  have h64' : ¬ (64 : Int) < n := by omega
  go_enter Try.func42, Try.ntmps42
  go_wp2_with (go_at_call 57; refine (HR.out _ s).mono ?_; rintro e w1 ⟨rfl, ho⟩; have HB1 := hide (HB0.out.only ho (by simp)); have HO1 := hide (HO0.out.trans ho); have k0 := HB1.out.cell 0; have k1 := HB1.out.cell 1; simp at k0 k1; rw [HS.out]; clear ho)
  obtain ⟨b, hb⟩ : ∃ b, b = w1.heap.size := ⟨_, rfl⟩
  have HBN := hide (Blk.new w1 99 #[.int .i64 s.1, .int .i64 s.2])
  have HON := hide (HO1.out.alloc (.cells #[.int .i64 s.1, .int .i64 s.2] 99))
  have hbw : w.heap.size ≤ w1.heap.size := HO1.out.size
  generalize (w1.alloc (.cells #[.int .i64 s.1, .int .i64 s.2] 99)) = w2 at *
  rw [← hb] at HBN hbw ⊢
  clear hb k0 k1
  go_loopw [6] (fun i wr => ∃ k : Nat, k ≤ n ∧ i = .int .i64 k ∧ Hid (∀ j, j < k → lok s l j = true) ∧ Hid (Blk wr b 99 #[.int .i64 (pos s l k).1, .int .i64 (pos s l k).2]) ∧ Hid (okP (pos s l k) = true) ∧ Hid (Only [] w wr)) (fun i _ => n - (intOf i).toNat)
  case atStart => exact ⟨0, Nat.zero_le _, rfl, hide (fun j hj => by omega), HBN, HS, HON⟩
  case round =>
    obtain ⟨k, hk, rfl, hok, hblk, hpos, ho⟩ := hrel
    by_cases hlt : k < n
    · have hlt' : (k : Int) < n := by omega
      obtain ⟨g, o, rfl, _, hg⟩ := HV.out.addr (by rw [← HN.out]; omega)
      obtain ⟨c1, c2, c3⟩ := lgs_cell (HV.out.only ho.out (by simp)) (show k < l.length by rw [← HN.out]; exact hlt)
      have hlk : lok s l k = (legOk (l.getD k zg) && okP (pos s l (k + 1))) := rfl
      have hpk : pos s l (k + 1) = ((pos s l k).1 + (l.getD k zg).1 * (l.getD k zg).2.2, (pos s l k).2 + (l.getD k zg).2.1 * (l.getD k zg).2.2) := rfl
      have HLK := hide hlk
      have HPK := hide hpk
      have hkl := hide (show k < l.length by rw [← HN.out]; exact hlt)
      clear hlk hpk
      generalize l.getD k zg = x at *
      generalize pos s l k = p at *
      obtain ⟨x1, x2, x3⟩ := x
      obtain ⟨p1, p2⟩ := p
      simp only at c1 c2 c3
      have q0 := hblk.out.cell 0
      have q1 := hblk.out.cell 1
      have z := hblk.out.frozen
      simp at q0 q1
      cases hlg : legOk (x1, x2, x3) with
      | false =>
        have HF := hide (routes_false (s := s) (l := l) hkl.out (by rw [HLK.out, hlg]; rfl))
        unfold legOk at hlg
        simp only at hlg
        by_cases g1 : -1000 ≤ x1 ∧ x1 ≤ 1000
        · by_cases g2 : -1000 ≤ x2 ∧ x2 ≤ 1000
          · have G1 := hide (decide_eq_true g1)
            have G2 := hide (decide_eq_true g2)
            have g3 : ¬ (1 ≤ x3 ∧ x3 ≤ 10000) := by
              rw [decide_eq_true g1, decide_eq_true g2] at hlg
              simp at hlg
              omega
            clear g1 g2 hlg
            by_cases g4 : x3 < 1
            · clear g3
              go_wp2_with (first
                | (go_at_call_of 58 (Value.int .i64 x1); refine (small_any _ x1).mono ?_; rw [G1.out]; rintro e w' ⟨rfl, rfl⟩)
                | (go_at_call_of 58 (Value.int .i64 x2); refine (small_any _ x2).mono ?_; rw [G2.out]; rintro e w' ⟨rfl, rfl⟩))
              go_ret
              exact andpost HF.out ho.out
            · have g5 : 10000 < x3 := by omega
              have g4' : decide (x3 < 1) = false := decide_eq_false g4
              clear g3
              go_wp2_with (first
                | (go_at_call_of 58 (Value.int .i64 x1); refine (small_any _ x1).mono ?_; rw [G1.out]; rintro e w' ⟨rfl, rfl⟩)
                | (go_at_call_of 58 (Value.int .i64 x2); refine (small_any _ x2).mono ?_; rw [G2.out]; rintro e w' ⟨rfl, rfl⟩))
              go_ret
              exact andpost HF.out ho.out
          · have G1 := hide (decide_eq_true g1)
            have G2 := hide (decide_eq_false g2)
            clear g1 g2 hlg
            go_wp2_with (first
              | (go_at_call_of 58 (Value.int .i64 x1); refine (small_any _ x1).mono ?_; rw [G1.out]; rintro e w' ⟨rfl, rfl⟩)
              | (go_at_call_of 58 (Value.int .i64 x2); refine (small_any _ x2).mono ?_; rw [G2.out]; rintro e w' ⟨rfl, rfl⟩))
            go_ret
            exact andpost HF.out ho.out
        · have G1 := hide (decide_eq_false g1)
          clear g1 hlg
          go_wp2_with (go_at_call_of 58 (Value.int .i64 x1); refine (small_any _ x1).mono ?_; rw [G1.out]; rintro e w' ⟨rfl, rfl⟩)
          go_ret
          exact andpost HF.out ho.out
      | true =>
        obtain ⟨g1, g2, g3, g4⟩ := legOk_bd hlg
        simp only at g1 g2 g3 g4
        have G1 := hide (decide_eq_true g1)
        have G2 := hide (decide_eq_true g2)
        have HLG := hide hlg
        have m1 := mul_bd g1.1 g1.2 (by omega) g4
        have m2 := mul_bd g2.1 g2.2 (by omega) g4
        have hpb := okP_bd hpos.out
        simp only at hpb
        obtain ⟨m11, m12⟩ := m1
        obtain ⟨m21, m22⟩ := m2
        obtain ⟨⟨b11, b12⟩, b21, b22⟩ := hpb
        clear hlg g1 g2
        go_upto_region 9 with (first
          | (go_at_call_of 58 (Value.int .i64 x1); refine (small_any _ x1).mono ?_; rw [G1.out]; rintro e w' ⟨rfl, rfl⟩)
          | (go_at_call_of 58 (Value.int .i64 x2); refine (small_any _ x2).mono ?_; rw [G2.out]; rintro e w' ⟨rfl, rfl⟩))
        go_still_tail 29, (by kernel_rfl)
        change wpList _ _ _ _ _ wr.drew
        have HBK := hide (((hblk.out.set_ 0 (.int .i64 (p1 + x1 * x3))).set_ 1 (.int .i64 (p2 + x2 * x3))).drew)
        have HOK := hide (((ho.out.mono (S' := [b]) (by simp)).setCell (p := ⟨b, 0, none⟩) (.inl (by simp)) (.int .i64 (p1 + x1 * x3))).setCell (p := ⟨b, 1, none⟩) (.inl (by simp)) (.int .i64 (p2 + x2 * x3))).drew
        have HBW := hide hbw
        cases hq : okP (p1 + x1 * x3, p2 + x2 * x3) with
        | false =>
          have HF := hide (routes_false (s := s) (l := l) hkl.out (by rw [HLK.out, HPK.out, HLG.out]; exact hq))
          have HQ := hide hq
          clear hq
          go_wp2_with (go_at_call 57; refine (HR.out _ (p1 + x1 * x3, p2 + x2 * x3)).mono ?_; rintro e w3 ⟨rfl, ho3⟩; have HO3 := hide (HOK.out.trans (ho3.mono (by simp))); rw [HQ.out]; clear ho3)
          go_ret
          exact andpost HF.out (HO3.out.mono (by simp; exact HBW.out))
        | true =>
          have HQ := hide hq
          clear hq
          go_wp2_with (go_at_call 57; refine (HR.out _ (p1 + x1 * x3, p2 + x2 * x3)).mono ?_; rintro e w3 ⟨rfl, ho3⟩; have HB3 := hide (HBK.out.only ho3 (by simp)); have HO3 := hide (HOK.out.trans (ho3.mono (by simp))); rw [HQ.out]; clear ho3)
          go_roundw
          case rel => exact ⟨k + 1, by omega, by go_num, hide (fun j hj => by
            rcases Nat.lt_or_ge j k with h | h
            · exact hok.out j h
            · rw [show j = k by omega, HLK.out, HPK.out, HLG.out]; exact HQ.out), hide (by rw [HPK.out]; exact HB3.out), hide (by rw [HPK.out]; exact HQ.out), hide (HO3.out.mono (by simp; exact HBW.out))⟩
          case measure => simp [intOf]; omega
    · have hlt' : ¬ (k : Int) < n := by omega
      obtain rfl : k = n := by omega
      have HT := hide (routes_true HS.out (by rw [← HN.out]; exact h64) (fun j hj => hok.out j (by rw [HN.out]; exact hj)))
      go_wp2_with fail
      go_ret
      exact andpost HT.out ho.out
end
end Go.Proofs.Yteoifokmbkpbnaa

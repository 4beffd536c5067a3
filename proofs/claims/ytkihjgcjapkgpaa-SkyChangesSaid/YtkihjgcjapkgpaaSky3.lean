/-
  Contracts of sky's Far, rightMasts, nearest, Nearest, and of their references, by walking.
-/
import Derived.Test.YtkihjgcjapkgpaaSky2
import Derived.Test.YtkihjgcjapkgpaaSls
namespace Go.Proofs.Ytkihjgcjapkgpaa
open Go.RowKit Go.Deep

def ptc (p : Int × Int) : List Value := [.int .i64 p.1, .int .i64 p.2]
def mastsV (l : List (Int × Int)) : Bool := decide (1 ≤ l.length ∧ l.length ≤ 64) && l.all okP
/-- The index of the nearest one of the first k. -/
def nb (l : List (Int × Int)) (p : Int × Int) : Nat → Nat
  | 0 => 0
  | k + 1 => if farV (l.getD k (0, 0)) p < farV (l.getD (nb l p k) (0, 0)) p then k else nb l p k
theorem nb_lt (l : List (Int × Int)) (p : Int × Int) : ∀ k, 0 < k → nb l p k < k
  | 1, _ => by unfold nb; split <;> simp [nb]
  | k + 2, _ => by
    have := nb_lt l p (k + 1) (by omega)
    unfold nb
    split <;> omega
def nearV (l : List (Int × Int)) (p : Int × Int) : Nat := nb l p l.length
theorem farV_comm (p q : Int × Int) : farV p q = farV q p := by
  unfold farV
  rw [← Int.neg_mul_neg (p.1 - q.1), ← Int.neg_mul_neg (p.2 - q.2), Int.neg_sub, Int.neg_sub]

theorem getD_of {α : Type} {l : List α} {i : Nat} {x d : α} (h : l[i]? = some x) : l.getD i d = x := by
  rw [List.getD_eq_getElem?_getD, h]; rfl
theorem get_lt {α : Type} (l : List α) (d : α) {i : Nat} (h : i < l.length) : l[i]? = some (l.getD i d) := by
  rw [List.getD_eq_getElem?_getD, List.getElem?_eq_getElem h]; rfl

/-- The cells of a point in a slice of points. -/
theorem pts_cell {w : World} {N : List Nat} {g o n cap : Nat} {l : List (Int × Int)} (h : RdS 2 ptc w N (.slice (some ⟨g, o, none⟩) n cap) l) {i : Nat} (hi : i < l.length) :
    w.cell? ⟨g, o + i * 2, none⟩ = some (.int .i64 (l.getD i (0, 0)).1) ∧ w.cell? ⟨g, o + i * 2 + 1, none⟩ = some (.int .i64 (l.getD i (0, 0)).2) := by
  have h1 := h.cell (get_lt l (0, 0) hi) (j := 0) (u := .int .i64 (l.getD i (0, 0)).1) rfl
  have h2 := h.cell (get_lt l (0, 0) hi) (j := 1) (u := .int .i64 (l.getD i (0, 0)).2) rfl
  exact ⟨h1, by rw [Nat.add_assoc]; exact h2⟩

set_option maxRecDepth 100000 in
set_option maxHeartbeats 1600000 in
theorem masts_ref (w : World) (N : List Nat) (v : Value) (l : List (Int × Int)) (hv : RdS 2 ptc w N v l) (hl : l.length ≤ 1000) :
    Calls Try.prog 14 #[v] w (AndPost (mastsV l) w) := by
  obtain ⟨A, cap, rfl, hc, hm⟩ := hv.form
  unfold maxLen at hm
  have HV := hide hv
  obtain ⟨n, hn⟩ : ∃ n, n = l.length := ⟨_, rfl⟩
  have HN := hide hn
  rw [← hn] at hl hc HV ⊢
  clear hv hn
  go_enter Try.func14, Try.ntmps14
  go_wp2_with fail
  go_loopw [3] (fun i wr => ∃ k : Nat, k ≤ n ∧ i = .int .i64 k ∧ Hid (∀ j, j < k → okP (l.getD j (0, 0)) = true) ∧ Hid (Only [] w wr)) (fun i _ => n - (intOf i).toNat)
  case atStart => exact ⟨0, Nat.zero_le _, rfl, hide (fun j hj => by omega), hide (Only.refl _ _)⟩
  case round =>
    obtain ⟨k, hk, rfl, hok, ho⟩ := hrel
    by_cases hlt : k < n
    · have hlt' : (k : Int) < n := by omega
      obtain ⟨g, o, rfl, _, hg⟩ := HV.out.addr (by rw [← HN.out]; omega)
      obtain ⟨c1, c2⟩ := pts_cell (HV.out.only ho.out (by simp)) (show k < l.length by rw [← HN.out]; exact hlt)
      have HC := hide (refright_any wr (l.getD k (0, 0)))
      unfold pt at HC
      generalize hp : l.getD k (0, 0) = p at *
      have HP := hide hp
      clear hp
      cases hb : okP p with
      | true =>
        have HB := hide hb
        clear hb
        go_wp2_with (go_at_call 11; refine HC.out.mono ?_; rintro e w2 ⟨rfl, ho2⟩; have HO2 := hide (ho.out.trans ho2); rw [HB.out]; clear ho2)
        go_roundw
        case rel => exact ⟨k + 1, by omega, by go_num, hide (fun j hj => by
          rcases Nat.lt_or_ge j k with h | h
          · exact hok.out j h
          · rw [show j = k by omega, HP.out]; exact HB.out), HO2⟩
        case measure => simp [intOf]; omega
      | false =>
        have HB := hide hb
        have hf : mastsV l = false := by
          unfold mastsV
          rw [Bool.and_eq_false_iff]
          right
          rw [List.all_eq_false]
          exact ⟨p, by rw [← HP.out, List.getD_eq_getElem?_getD, List.getElem?_eq_getElem (by rw [← HN.out]; exact hlt)]; exact List.getElem_mem _, by rw [HB.out]; simp⟩
        have HF := hide hf
        clear hb hf
        go_wp2_with (go_at_call 11; refine HC.out.mono ?_; rintro e w2 ⟨rfl, ho2⟩; have HO2 := hide (ho.out.trans ho2); rw [HB.out]; clear ho2)
        go_ret
        exact andpost HF.out HO2.out
    · have hlt' : ¬ (k : Int) < n := by omega
      have hall : l.all okP = true := by
        rw [List.all_eq_true]
        intro x hx
        obtain ⟨j, hj, rfl⟩ := List.getElem_of_mem hx
        have := hok.out j (by have := HN.out; omega)
        rwa [List.getD_eq_getElem?_getD, List.getElem?_eq_getElem hj] at this
      have hmv : mastsV l = decide (1 ≤ n ∧ n ≤ 64) := by unfold mastsV; rw [hall, Bool.and_true, ← HN.out]
      have HMV := hide hmv
      clear hall hmv
      by_cases h1 : 1 ≤ n
      · by_cases h2 : n ≤ 64
        · have h2' : (n : Int) ≤ 64 := by omega
          have h1' : (1 : Int) ≤ n := by omega
          have HD := hide (decide_eq_true (show 1 ≤ n ∧ n ≤ 64 from ⟨h1, h2⟩))
          go_wp2_with fail
          go_ret
          exact andpost (HMV.out.trans HD.out) ho.out
        · have h2' : decide ((n : Int) ≤ 64) = false := by rw [decide_eq_false_iff_not]; omega
          have h1' : (1 : Int) ≤ n := by omega
          have HD := hide (decide_eq_false (show ¬ (1 ≤ n ∧ n ≤ 64) from fun h => h2 h.2))
          clear h2
          go_wp2_with fail
          go_ret
          exact andpost (HMV.out.trans HD.out) ho.out
      · have h1' : decide ((1 : Int) ≤ n) = false := by rw [decide_eq_false_iff_not]; omega
        have HD := hide (decide_eq_false (show ¬ (1 ≤ n ∧ n ≤ 64) from fun h => h1 h.1))
        clear h1
        go_wp2_with fail
        go_ret
        exact andpost (HMV.out.trans HD.out) ho.out

set_option maxRecDepth 100000 in
set_option maxHeartbeats 1600000 in
theorem masts_any (w : World) (N : List Nat) (v : Value) (l : List (Int × Int)) (hv : RdS 2 ptc w N v l) (hl : l.length ≤ 1000) (hfit : ∀ p ∈ l, Fit p) :
    Calls Try.prog 38 #[v] w (AndPost (mastsV l) w) := by
  obtain ⟨A, cap, rfl, hc, hm⟩ := hv.form
  unfold maxLen at hm
  have HV := hide hv
  obtain ⟨n, hn⟩ : ∃ n, n = l.length := ⟨_, rfl⟩
  have HN := hide hn
  rw [← hn] at hl hc HV ⊢
  have HFIT := hide hfit
  clear hv hn hfit
  by_cases h1 : 1 ≤ n
  case neg =>
    have h1' : (n : Int) < 1 := by omega
    have HF := hide (show mastsV l = false by unfold mastsV; rw [← HN.out, decide_eq_false (show ¬ (1 ≤ n ∧ n ≤ 64) from fun h => h1 h.1)]; rfl)
    clear h1
    go_enter Try.func38, Try.ntmps38
    go_wp2_with fail
    go_ret
    exact andpost HF.out (Only.refl _ _)
  have h1' : ¬ (n : Int) < 1 := by omega
  have h1'' : decide ((n : Int) < 1) = false := decide_eq_false h1'
  by_cases h2 : n ≤ 64
  case neg =>
    have h2' : (64 : Int) < n := by omega
    have HF := hide (show mastsV l = false by unfold mastsV; rw [← HN.out, decide_eq_false (show ¬ (1 ≤ n ∧ n ≤ 64) from fun h => h2 h.2)]; rfl)
    clear h1 h2
    go_enter Try.func38, Try.ntmps38
    go_wp2_with fail
    go_ret
    exact andpost HF.out (Only.refl _ _)
  have h2' : ¬ (64 : Int) < n := by omega
  go_enter Try.func38, Try.ntmps38
  go_wp2_with fail
  go_loopw [15] (fun i wr => ∃ k : Nat, k ≤ n ∧ i = .int .i64 k ∧ Hid (∀ j, j < k → okP (l.getD j (0, 0)) = true) ∧ Hid (Only [] w wr)) (fun i _ => n - (intOf i).toNat)
  case atStart => exact ⟨0, Nat.zero_le _, rfl, hide (fun j hj => by omega), hide (Only.refl _ _)⟩
  case round =>
    obtain ⟨k, hk, rfl, hok, ho⟩ := hrel
    by_cases hlt : k < n
    · have hlt' : (k : Int) < n := by omega
      obtain ⟨g, o, rfl, _, hg⟩ := HV.out.addr (by rw [← HN.out]; omega)
      obtain ⟨c1, c2⟩ := pts_cell (HV.out.only ho.out (by simp)) (show k < l.length by rw [← HN.out]; exact hlt)
      have hmem : l.getD k (0, 0) ∈ l := by
        rw [List.getD_eq_getElem?_getD, List.getElem?_eq_getElem (by rw [← HN.out]; exact hlt)]; exact List.getElem_mem _
      have HMEM := hide hmem
      clear hmem
      generalize hp : l.getD k (0, 0) = p at *
      have HP := hide hp
      have HC := hide (right_any (wr.alloc (.cells #[.int .i64 p.1, .int .i64 p.2] 24)) p (HFIT.out p HMEM.out))
      have HOA := hide (ho.out.alloc (.cells #[.int .i64 p.1, .int .i64 p.2] 24))
      unfold pt at HC
      clear hp
      cases hb : okP p with
      | true =>
        have HB := hide hb
        clear hb
        go_wp2_with (go_at_call 24; refine HC.out.mono ?_; rintro e w2 ⟨rfl, ho2⟩; have HO2 := hide (HOA.out.trans ho2); rw [HB.out]; clear ho2)
        go_roundw
        case rel => exact ⟨k + 1, by omega, by go_num, hide (fun j hj => by
          rcases Nat.lt_or_ge j k with h | h
          · exact hok.out j h
          · rw [show j = k by omega, HP.out]; exact HB.out), HO2⟩
        case measure => simp [intOf]; omega
      | false =>
        have HB := hide hb
        have hf : mastsV l = false := by
          unfold mastsV
          rw [Bool.and_eq_false_iff]
          right
          rw [List.all_eq_false]
          exact ⟨p, HMEM.out, by rw [HB.out]; simp⟩
        have HF := hide hf
        clear hb hf
        go_wp2_with (go_at_call 24; refine HC.out.mono ?_; rintro e w2 ⟨rfl, ho2⟩; have HO2 := hide (HOA.out.trans ho2); rw [HB.out]; clear ho2)
        go_ret
        exact andpost HF.out HO2.out
    · have hlt' : ¬ (k : Int) < n := by omega
      have hall : l.all okP = true := by
        rw [List.all_eq_true]
        intro x hx
        obtain ⟨j, hj, rfl⟩ := List.getElem_of_mem hx
        have := hok.out j (by have := HN.out; omega)
        rwa [List.getD_eq_getElem?_getD, List.getElem?_eq_getElem hj] at this
      have hmv : mastsV l = true := by unfold mastsV; rw [hall, Bool.and_true, ← HN.out]; exact decide_eq_true ⟨h1, h2⟩
      have HMV := hide hmv
      clear hall hmv
      go_wp2_with fail
      go_ret
      exact andpost HMV.out ho.out

theorem masts_mem {l : List (Int × Int)} (h : mastsV l = true) : (∀ p ∈ l, okP p = true) ∧ 1 ≤ l.length ∧ l.length ≤ 64 := by
  unfold mastsV at h
  rw [Bool.and_eq_true, List.all_eq_true] at h
  have := of_decide_eq_true h.1
  exact ⟨h.2, this.1, this.2⟩

def NumPost (n : Int) (w : World) (e : Ending) (w' : World) : Prop := e = .returned (.int .i64 n) ∧ Only [] w w'
theorem numpost {n n' : Int} {w w' : World} (h : n = n') (ho : Only [] w w') : NumPost n w (.returned (.int .i64 n')) w' := ⟨by rw [h], ho⟩

set_option maxRecDepth 100000 in
set_option maxHeartbeats 3200000 in
theorem nearest_ref (w : World) (N : List Nat) (v : Value) (l : List (Int × Int)) (p : Int × Int) (hv : RdS 2 ptc w N v l) (hl : l.length ≤ 1000) (hok : ∀ q ∈ l, okP q = true) (hp : okP p = true) (h0 : 0 < l.length) :
    Calls Try.prog 15 #[v, pt p] w (NumPost (nearV l p) w) := by
  obtain ⟨A, cap, rfl, hc, hm⟩ := hv.form
  unfold maxLen at hm
  obtain ⟨g, o, rfl, _, hg⟩ := hv.addr h0
  have HV := hide hv
  obtain ⟨n, hn⟩ : ∃ n, n = l.length := ⟨_, rfl⟩
  have HN := hide hn
  rw [← hn] at hl hc HV h0 ⊢
  have HOK := hide (show ∀ i, i < n → okP (l.getD i (0, 0)) = true from fun i hi => hok _ (by
    rw [List.getD_eq_getElem?_getD, List.getElem?_eq_getElem (by rw [← HN.out]; exact hi)]; exact List.getElem_mem _))
  have HPB := hide (okP_bd hp)
  have HP := hide hp
  clear hv hn hok hp
  have HBP := hide (Blk.new w 33 #[.int .i64 p.1, .int .i64 p.2])
  have HO0 := hide ((Only.refl [] w).alloc (.cells #[.int .i64 p.1, .int .i64 p.2] 33))
  have hgw : g ≠ w.heap.size := by omega
  unfold pt
  go_enter Try.func15, Try.ntmps15
  go_wp2_with fail
  have hn1 : nb l p 1 = 0 := by unfold nb; split <;> rfl
  go_loopw [6, 5] (fun i b wr => ∃ k : Nat, 1 ≤ k ∧ k ≤ n ∧ i = .int .i64 k ∧ b = .int .i64 (nb l p k : Nat) ∧ Hid (Only [] (w.alloc (.cells #[.int .i64 p.1, .int .i64 p.2] 33)) wr)) (fun i _ _ => n - (intOf i).toNat)
  case atStart => exact ⟨1, Nat.le_refl _, h0, rfl, by rw [hn1]; rfl, hide (Only.refl _ _)⟩
  case round =>
    obtain ⟨k, hk1, hk, rfl, rfl, ho⟩ := hrel
    have HO := hide (HO0.out.trans ho.out)
    by_cases hlt : k < n
    · have hlt' : (k : Int) < n := by omega
      have hbk := nb_lt l p k (by omega)
      have hsuc : nb l p (k + 1) = if farV (l.getD k (0, 0)) p < farV (l.getD (nb l p k) (0, 0)) p then k else nb l p k := rfl
      have HS := hide hsuc
      clear hsuc
      generalize nb l p k = b at *
      have hbn : b < n := by omega
      have hbn' : (b : Int) < n := by omega
      have hb1 := okP_bd (HOK.out k hlt)
      have hb2 := okP_bd (HOK.out b hbn)
      obtain ⟨c1, c2⟩ := pts_cell (HV.out.only HO.out (by simp)) (show k < l.length by rw [← HN.out]; exact hlt)
      obtain ⟨d1, d2⟩ := pts_cell (HV.out.only HO.out (by simp)) (show b < l.length by rw [← HN.out]; exact hbn)
      have HBW := hide (HBP.out.only ho.out (by simp))
      have p1 := HBW.out.cell 0
      have p2 := HBW.out.cell 1
      simp at p1 p2
      generalize hx : l.getD k (0, 0) = x at *
      generalize hy : l.getD b (0, 0) = y at *
      have HFX := hide (show ∀ W, _ from fun W => reffar_any W x p (by omega) (by omega) (by have := HPB.out; omega) (by have := HPB.out; omega))
      have HFY := hide (show ∀ W, _ from fun W => reffar_any W y p (by omega) (by omega) (by have := HPB.out; omega) (by have := HPB.out; omega))
      unfold pt at HFX HFY
      clear hx hy hb1 hb2
      have hgl : g < wr.heap.size := Nat.lt_of_lt_of_le hg HO.out.size
      have hwl : w.heap.size < wr.heap.size := HBW.out.lt
      go_wp2_with fail
      go_region_held3 (fun w' => w'.cell? ⟨g, o + k * 2, none⟩ = some (.int .i64 x.1) ∧ w'.cell? ⟨g, o + k * 2 + 1, none⟩ = some (.int .i64 x.2) ∧ w'.cell? ⟨g, o + b * 2, none⟩ = some (.int .i64 y.1) ∧ w'.cell? ⟨g, o + b * 2 + 1, none⟩ = some (.int .i64 y.2) ∧ w'.cell? ⟨w.heap.size, 0, none⟩ = some (.int .i64 p.1) ∧ w'.cell? ⟨w.heap.size, 1, none⟩ = some (.int .i64 p.2))
        (first | exact ⟨c1, c2, d1, d2, p1, p2⟩ | exact ⟨e1, e2, e3, e4, e5, e6⟩ | exact ⟨f1, f2, f3, f4, f5, f6⟩)
        (first
        | (go_at_call_of 13 (Value.agg #[.int .i64 x.1, .int .i64 x.2]); refine (HFX.out _).mono ?_; rintro e wA ⟨rfl, hoA⟩; have HOA := hide (((Only.refl [] wr).drew).trans hoA); have e1 := (cell_only HOA.out hgl (by simp)).trans c1; have e2 := (cell_only HOA.out hgl (by simp)).trans c2; have e3 := (cell_only HOA.out hgl (by simp)).trans d1; have e4 := (cell_only HOA.out hgl (by simp)).trans d2; have e5 := (cell_only HOA.out hwl (by simp)).trans p1; have e6 := (cell_only HOA.out hwl (by simp)).trans p2; clear hoA)
        | (go_at_call_of 13 (Value.agg #[.int .i64 y.1, .int .i64 y.2]); refine (HFY.out _).mono ?_; rintro e wB ⟨rfl, hoB⟩; have HOB := hide (HOA.out.trans hoB); have f1 := (cell_only HOB.out hgl (by simp)).trans c1; have f2 := (cell_only HOB.out hgl (by simp)).trans c2; have f3 := (cell_only HOB.out hgl (by simp)).trans d1; have f4 := (cell_only HOB.out hgl (by simp)).trans d2; have f5 := (cell_only HOB.out hwl (by simp)).trans p1; have f6 := (cell_only HOB.out hwl (by simp)).trans p2; clear hoB))
      generalize hfx : farV x p = fx at *
      generalize hfy : farV y p = fy at *
      by_cases hcmp : fx < fy
      · have HSS := hide (show nb l p (k + 1) = k by rw [HS.out, if_pos hcmp])
        go_wp2_with fail
        go_roundw
        case rel => exact ⟨k + 1, by omega, by omega, by go_num, by rw [HSS.out], hide (ho.out.trans HOB.out)⟩
        case measure => simp [intOf]; omega
      · have HSS := hide (show nb l p (k + 1) = b by rw [HS.out, if_neg hcmp])
        go_wp2_with fail
        go_roundw
        case rel => exact ⟨k + 1, by omega, by omega, by go_num, by rw [HSS.out], hide (ho.out.trans HOB.out)⟩
        case measure => simp [intOf]; omega
    · have hlt' : ¬ (k : Int) < n := by omega
      obtain rfl : k = n := by omega
      have HEQ := hide (show ((nearV l p : Nat) : Int) = (nb l p k : Nat) by unfold nearV; rw [← HN.out])
      go_wp2_with fail
      go_ret
      exact numpost HEQ.out HO.out
end Go.Proofs.Ytkihjgcjapkgpaa

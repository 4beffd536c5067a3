/-
  Walks and plain words (texts Rt1, Rt2, Rt3, Rt4, Rt5). No condition beyond those that each theorem states.
-/
import Derived.Test.YteoifokmbkpbnaaDoorQ14
namespace Go.Proofs.YteoifokmbkpbnaaDoor
section
open Go.RowKit Go.Deep

def delR (c : UInt8) : Bool := c == 44 || c == 41
/-- The end of the reference's word that begins at p. -/
def wendR (s : ByteArray) (p : Nat) : Nat := p + ((s.data.toList.drop p).takeWhile fun c => !delR c).length
theorem wendR_end (s : ByteArray) (p : Nat) (h : s.size ≤ p) : wendR s p = p := by
  unfold wendR; rw [List.drop_of_length_le (by simpa using h)]; simp
theorem wendR_stop (s : ByteArray) (p : Nat) (h : p < s.size) (hd : delR s[p] = true) : wendR s p = p := by
  unfold wendR; rw [drop_at s p h]; simp [hd]
theorem wendR_step (s : ByteArray) (p : Nat) (h : p < s.size) (hd : delR s[p] = false) : wendR s (p + 1) = wendR s p := by
  unfold wendR; rw [drop_at s p h]; simp [hd]; omega
theorem wendR_ge (s : ByteArray) (p : Nat) : p ≤ wendR s p := Nat.le_add_right _ _
theorem wendR_le (s : ByteArray) (p : Nat) (h : p ≤ s.size) : wendR s p ≤ s.size := by
  unfold wendR
  have h1 : ((s.data.toList.drop p).takeWhile fun c => !delR c).length ≤ (s.data.toList.drop p).length := (List.takeWhile_sublist _).length_le
  have h2 : (s.data.toList.drop p).length = s.size - p := by rw [List.length_drop]; rfl
  omega
theorem delR_false {c : UInt8} (h : delR c = false) : ((c.toNat : Int) != 44) = true ∧ ((c.toNat : Int) != 41) = true := by
  unfold delR at h
  simp only [Bool.or_eq_false_iff] at h
  exact ⟨ne_of_nat (n := 44) h.1 (by decide), ne_of_nat (n := 41) h.2 (by decide)⟩
theorem delR_true {c : UInt8} (h : delR c = true) : ((c.toNat : Int) != 44) = false ∨ (((c.toNat : Int) != 44) = true ∧ ((c.toNat : Int) != 41) = false) := by
  unfold delR at h
  simp only [Bool.or_eq_true, beq_iff_eq] at h
  rcases h with h | h
  · subst h; exact .inl rfl
  · subst h; exact .inr ⟨rfl, rfl⟩
def WordRPost (s : ByteArray) (p : Nat) (w : World) (e : Ending) (w' : World) : Prop := e = .returned (.tuple #[.string (s.extract p (wendR s p)), .int .i64 (wendR s p : Nat)]) ∧ w = w'
theorem wordr_end {s : ByteArray} {p j : Nat} {w : World} (h : wendR s p = j) : WordRPost s p w (.returned (.tuple #[.string (s.extract p j), .int .i64 (j : Nat)])) w := by
  subst h; exact ⟨rfl, rfl⟩

set_option maxRecDepth 100000 in
set_option maxHeartbeats 3200000 in
theorem wordr_any (w : World) (s : ByteArray) (p : Nat) (hp : p ≤ s.size) (hs : s.size ≤ maxLen) : Calls Tryd.prog 83 #[.string s, .int .i64 p] w (WordRPost s p w) := by
  unfold maxLen at hs
  go_enter Tryd.func83, Tryd.ntmps83
  go_wp2_with fail
  go_loop [1] (fun i => ∃ j : Nat, p ≤ j ∧ j ≤ s.size ∧ i = .int .i64 j ∧ Hid (wendR s j = wendR s p)) (fun i => s.size - (intOf i).toNat)
  case atStart => exact ⟨p, Nat.le_refl _, hp, rfl, hide rfl⟩
  case round =>
    obtain ⟨j, hpj, hj, rfl, hw⟩ := hrel
    by_cases hlt : j < s.size
    · have hltI : (j : Int) < s.size := by omega
      have hd : decide (j < s.size) = true := decide_eq_true hlt
      cases hc : delR s[j] with
      | false =>
        have HS := hide (wendR_step s j hlt hc)
        obtain ⟨h1, h2⟩ := delR_false hc
        clear hc
        go_wp2_with fail
        go_round
        case rel => exact ⟨j + 1, by omega, by omega, by go_num, hide (HS.out.trans hw.out)⟩
        case measure => simp [intOf]; omega
      | true =>
        have HS := hide ((wendR_stop s j hlt hc).symm.trans hw.out).symm
        have hpI : (p : Int) ≤ j := by omega
        rcases delR_true hc with h1 | ⟨h1, h2⟩
        all_goals
          clear hc
          go_wp2_with fail
          go_ret2
          exact wordr_end HS.out
    · obtain rfl : j = s.size := by omega
      have hge : ¬ (s.size : Int) < s.size := by omega
      have HS := hide ((wendR_end s s.size (Nat.le_refl _)).symm.trans hw.out).symm
      have hpI : (p : Int) ≤ s.size := by omega
      go_wp2_with fail
      go_ret2
      exact wordr_end HS.out

/-- The byte at a place, 0 behind the end. -/
def atV (s : ByteArray) (p : Nat) : Nat := if h : p < s.size then s[p].toNat else 0
theorem atr_any (w : World) (s : ByteArray) (p : Nat) (_hs : s.size ≤ maxLen) : Calls Tryd.prog 81 #[.string s, .int .i64 p] w fun e w' => e = .returned (.int .u8 (atV s p : Nat)) ∧ w = w' := by
  unfold maxLen at _hs
  by_cases hlt : p < s.size
  · have hltI : ¬ (s.size : Int) ≤ p := by omega
    have hd : decide (p < s.size) = true := decide_eq_true hlt
    have HV := hide (show atV s p = s[p].toNat by unfold atV; rw [dif_pos hlt])
    go_enter Tryd.func81, Tryd.ntmps81
    go_wp2
    go_ret
    exact ⟨by rw [HV.out]; rfl, rfl⟩
  · have hge : (s.size : Int) ≤ p := by omega
    have HV := hide (show atV s p = 0 by unfold atV; rw [dif_neg hlt])
    go_enter Tryd.func81, Tryd.ntmps81
    go_wp2
    go_ret
    exact ⟨by rw [HV.out]; rfl, rfl⟩

theorem letters_at (W : World) : (∀ k : Nat, k < 11 → (Instr.index 9 (.string ⟨#[48, 97, 110, 120, 112, 100, 104, 107, 109, 115, 108]⟩) (.int .i64 (k : Int))).run Tryd.prog W = .ok (.int .u8 (([48, 97, 110, 120, 112, 100, 104, 107, 109, 115, 108] : List Int).getD k 0)) W) := by
  intro k hk
  rcases (show k = 0 ∨ k = 1 ∨ k = 2 ∨ k = 3 ∨ k = 4 ∨ k = 5 ∨ k = 6 ∨ k = 7 ∨ k = 8 ∨ k = 9 ∨ k = 10 by omega) with rfl | rfl | rfl | rfl | rfl | rfl | rfl | rfl | rfl | rfl | rfl
  all_goals kernel_rfl
def lettV (k : Nat) : Int := ([48, 97, 110, 120, 112, 100, 104, 107, 109, 115, 108] : List Int).getD k 0
theorem kind_hit : ∀ k, k < 11 → ∀ c : Int, lettV k = c → kindV c = (k : Int) + 1 := by
  intro k hk c hc
  subst hc
  rcases (show k = 0 ∨ k = 1 ∨ k = 2 ∨ k = 3 ∨ k = 4 ∨ k = 5 ∨ k = 6 ∨ k = 7 ∨ k = 8 ∨ k = 9 ∨ k = 10 by omega) with rfl | rfl | rfl | rfl | rfl | rfl | rfl | rfl | rfl | rfl | rfl
  all_goals decide
theorem kind_miss (c : Int) (h : ∀ k, k < 11 → lettV k ≠ c) : kindV c = 0 := by
  have h0 := h 0 (by omega); have h1 := h 1 (by omega); have h2 := h 2 (by omega); have h3 := h 3 (by omega); have h4 := h 4 (by omega); have h5 := h 5 (by omega)
  have h6 := h 6 (by omega); have h7 := h 7 (by omega); have h8 := h 8 (by omega); have h9 := h 9 (by omega); have h10 := h 10 (by omega)
  simp [lettV] at h0 h1 h2 h3 h4 h5 h6 h7 h8 h9 h10
  unfold kindV
  rw [if_neg (Ne.symm h0), if_neg (Ne.symm h1), if_neg (Ne.symm h2), if_neg (Ne.symm h3), if_neg (Ne.symm h4), if_neg (Ne.symm h5), if_neg (Ne.symm h6), if_neg (Ne.symm h7), if_neg (Ne.symm h8), if_neg (Ne.symm h9), if_neg (Ne.symm h10)]

set_option maxRecDepth 100000 in
set_option maxHeartbeats 3200000 in
theorem kindr_any (c : Int) (w : World) : Calls Tryd.prog 80 #[.int .u8 c] w fun e w' => e = .returned (.int .i64 (kindV c)) ∧ w = w' := by
  go_enter Tryd.func80, Tryd.ntmps80
  go_wp2_with fail
  go_loop [3] (fun i => ∃ k : Nat, k ≤ 11 ∧ i = .int .i64 k ∧ Hid (∀ j, j < k → lettV j ≠ c)) (fun i => 11 - (intOf i).toNat)
  case atStart => exact ⟨0, by omega, rfl, hide (fun j hj => by omega)⟩
  case round =>
    obtain ⟨k, hk, rfl, hm⟩ := hrel
    by_cases hlt : k < 11
    · have hltI : (k : Int) < 11 := by omega
      have HI := hide (fun W => letters_at W k hlt)
      have hix : ∀ W, (Instr.index 9 (.string ⟨#[48, 97, 110, 120, 112, 100, 104, 107, 109, 115, 108]⟩) (.int .i64 (k : Int))).run Tryd.prog W = .ok (.int .u8 (lettV k)) W := HI.out
      by_cases he : lettV k = c
      · have e1 : (lettV k == c) = true := by rw [beq_iff_eq]; exact he
        have HV := hide (kind_hit k hlt c he)
        clear he
        go_wp2_with fail
        go_ret
        exact ⟨by rw [HV.out]; rfl, rfl⟩
      · have e1 : (lettV k == c) = false := by rw [beq_eq_false_iff_ne]; exact he
        have HE := hide he
        clear he
        go_wp2_with fail
        go_round
        case rel => exact ⟨k + 1, by omega, by go_num, hide (fun j hj => by
          by_cases hjk : j = k
          · subst hjk; exact HE.out
          · exact hm.out j (by omega))⟩
        case measure => simp [intOf]; omega
    · obtain rfl : k = 11 := by omega
      have HV := hide (kind_miss c hm.out)
      go_wp2_with fail
      go_ret
      exact ⟨by rw [HV.out]; rfl, rfl⟩

/-- May a kind have so many parts? (kinds from 5 on) -/
def rightR (k n : Int) : Bool := if k = 5 then decide (n = 1) else if k = 6 ∨ k = 8 ∨ k = 9 then decide (n = 2) else if k = 7 then decide (1 ≤ n) else if k = 10 then decide (n = 3) else true
set_option maxHeartbeats 3200000 in
theorem rightr_any (k n : Int) (w : World) : Calls Tryd.prog 84 #[.int .i64 k, .int .i64 n] w fun e w' => e = .returned (.bool (rightR k n)) ∧ w = w' := by
  have d1 : (n == 1) = decide (n = 1) := rfl
  have d2 : (n == 2) = decide (n = 2) := rfl
  have d3 : (n == 3) = decide (n = 3) := rfl
  by_cases h5 : k = 5
  · subst h5
    have HV := hide (show rightR 5 n = decide (n = 1) from rfl)
    go_enter Tryd.func84, Tryd.ntmps84
    go_wp2
    go_ret
    exact ⟨by rw [HV.out]; rfl, rfl⟩
  have e5 : (k == 5) = false := by rw [beq_eq_false_iff_ne]; exact h5
  by_cases h6 : k = 6
  · subst h6
    have HV := hide (show rightR 6 n = decide (n = 2) from rfl)
    go_enter Tryd.func84, Tryd.ntmps84
    go_wp2
    go_ret
    exact ⟨by rw [HV.out]; rfl, rfl⟩
  have e6 : (k == 6) = false := by rw [beq_eq_false_iff_ne]; exact h6
  by_cases h8 : k = 8
  · subst h8
    have HV := hide (show rightR 8 n = decide (n = 2) from rfl)
    go_enter Tryd.func84, Tryd.ntmps84
    go_wp2
    go_ret
    exact ⟨by rw [HV.out]; rfl, rfl⟩
  have e8 : (k == 8) = false := by rw [beq_eq_false_iff_ne]; exact h8
  by_cases h9 : k = 9
  · subst h9
    have HV := hide (show rightR 9 n = decide (n = 2) from rfl)
    go_enter Tryd.func84, Tryd.ntmps84
    go_wp2
    go_ret
    exact ⟨by rw [HV.out]; rfl, rfl⟩
  have e9 : (k == 9) = false := by rw [beq_eq_false_iff_ne]; exact h9
  by_cases h7 : k = 7
  · subst h7
    have HV := hide (show rightR 7 n = decide (1 ≤ n) from rfl)
    go_enter Tryd.func84, Tryd.ntmps84
    go_wp2
    go_ret
    exact ⟨by rw [HV.out]; rfl, rfl⟩
  have e7 : (k == 7) = false := by rw [beq_eq_false_iff_ne]; exact h7
  by_cases h10 : k = 10
  · subst h10
    have HV := hide (show rightR 10 n = decide (n = 3) from rfl)
    go_enter Tryd.func84, Tryd.ntmps84
    go_wp2
    go_ret
    exact ⟨by rw [HV.out]; rfl, rfl⟩
  have e10 : (k == 10) = false := by rw [beq_eq_false_iff_ne]; exact h10
  have HV := hide (show rightR k n = true by unfold rightR; rw [if_neg h5, if_neg (by rintro (h | h | h) <;> contradiction), if_neg h7, if_neg h10])
  clear h5 h6 h7 h8 h9 h10
  go_enter Tryd.func84, Tryd.ntmps84
  go_wp2
  go_ret
  exact ⟨by rw [HV.out]; rfl, rfl⟩
end
section
open Go.RowKit Go.Deep

/-- What the reference's term, or leaf, hands back. -/
def NodePost (r : Option (Nd × Nat)) (w : World) (e : Ending) (w' : World) : Prop :=
  match r with
  | none => e = .returned (.tuple #[.agg #[.int .i64 0, .int .u64 0, .slice none 0 0, .slice none 0 0], .int .i64 (-1)]) ∧ Only [] w w'
  | some (nd, q) => ∃ bv pv, e = .returned (.tuple #[.agg #[.int .i64 nd.1, .int .u64 nd.2.1, bv, pv], .int .i64 (q : Nat)]) ∧ Only [] w w' ∧
      (∀ N : List Nat, (∀ x ∈ N, x < w.heap.size) → Rd w' N bv (ints .u8 (byts nd.2.2.1))) ∧ (∀ N : List Nat, (∀ x ∈ N, x < w.heap.size) → Rd w' N pv (strs nd.2.2.2))
def leafV (s : ByteArray) (i : Nat) (k : Int) : Option (Nd × Nat) :=
  if k = 1 then some ((1, 0, [], []), i)
  else if k = 4 then (if (hexR (s.extract i (wendR s i)).data.toList).2 = 0 then some ((4, 0, (hexR (s.extract i (wendR s i)).data.toList).1, []), wendR s i) else none)
  else match numK k (s.extract i (wendR s i)).data.toList with
    | none => none
    | some n => some ((k, n, [], []), wendR s i)
theorem node_no {r : Option (Nd × Nat)} {w w' : World} (h : r = none) (ho : Only [] w w') : NodePost r w (.returned (.tuple #[.agg #[.int .i64 0, .int .u64 0, .slice none 0 0, .slice none 0 0], .int .i64 (-1)])) w' := by subst h; exact ⟨rfl, ho⟩
theorem node_flat {r : Option (Nd × Nat)} {k : Int} {n q : Nat} {w w' : World} (h : r = some ((k, n, [], []), q)) (ho : Only [] w w') : NodePost r w (.returned (.tuple #[.agg #[.int .i64 k, .int .u64 (n : Nat), .slice none 0 0, .slice none 0 0], .int .i64 (q : Nat)])) w' := by
  subst h; exact ⟨_, _, rfl, ho, fun N _ => Rd.nil _ N, fun N _ => Rd.nil _ N⟩
theorem node_bytes {r : Option (Nd × Nat)} {l : List UInt8} {q : Nat} {bv : Value} {w w' : World} (h : r = some ((4, 0, l, []), q)) (ho : Only [] w w') (hb : ∀ N : List Nat, (∀ x ∈ N, x < w.heap.size) → Rd w' N bv (ints .u8 (byts l))) :
    NodePost r w (.returned (.tuple #[.agg #[.int .i64 4, .int .u64 0, bv, .slice none 0 0], .int .i64 (q : Nat)])) w' := by
  subst h; exact ⟨_, _, rfl, ho, hb, fun N _ => Rd.nil _ N⟩

theorem only_four0 {S : List Nat} {w w' : World} {B : Nat} {x y z u : Value} (h : Only S w w') (hB : B ∈ S ∨ w.heap.size ≤ B) :
    Only S w ((((w'.setCell ⟨B, 0, none⟩ x).setCell ⟨B, 1, none⟩ y).setCell ⟨B, 2, none⟩ z).setCell ⟨B, 3, none⟩ u) :=
  (((h.setCell (p := ⟨B, 0, none⟩) hB x).setCell (p := ⟨B, 1, none⟩) hB y).setCell (p := ⟨B, 2, none⟩) hB z).setCell (p := ⟨B, 3, none⟩) hB u

set_option maxRecDepth 100000 in
set_option maxHeartbeats 3200000 in
theorem leaf_one (w : World) (s : ByteArray) (i : Nat) : Calls Tryd.prog 82 #[.string s, .int .i64 i, .int .i64 1] w (NodePost (leafV s i 1) w) := by
  have HR := hide (show leafV s i 1 = some ((1, 0, [], []), i) from rfl)
  have HF := hide (Blk.new w 88 #[.int .i64 1, .int .u64 0, .slice none 0 0, .slice none 0 0])
  go_enter Tryd.func82, Tryd.ntmps82
  go_wp2_with fail
  refine bodyPost_ret (results_cell_two rfl _ _ w.heap.size 88 _ (0, 0) _ rfl HF.out Tryd.underlying88 rfl (by kernel_rfl)) rfl ?_
  exact node_flat HR.out ((Only.refl [] w).alloc _)

set_option maxRecDepth 100000 in
set_option maxHeartbeats 6400000 in
theorem leaf_num (w : World) (s : ByteArray) (i : Nat) (k : Int) (hk : k = 2 ∨ k = 3) (hi : i ≤ s.size) (hs : s.size ≤ 1000000) : Calls Tryd.prog 82 #[.string s, .int .i64 i, .int .i64 k] w (NodePost (leafV s i k) w) := by
  have HW := hide (fun W => wordr_any W s i hi (by unfold maxLen; omega))
  have hx := extract_size s i (wendR s i)
  have HLV := hide (show leafV s i k = match numK k (s.extract i (wendR s i)).data.toList with | none => none | some n => some ((k, n, [], []), wendR s i) by unfold leafV; rw [if_neg (by omega), if_neg (by omega)])
  unfold WordRPost at HW
  generalize wendR s i = q at *
  generalize s.extract i q = t at *
  have HN := hide (fun W => read_ref W t (by omega))
  unfold NumRPost' at HN
  have hr := numR_lt t.data.toList
  have HK := hide (show numK k t.data.toList = if (numR t.data.toList).2 = 0 ∧ allowedV k (numR t.data.toList).1 = true then some (numR t.data.toList).1 else none from rfl)
  generalize numR t.data.toList = r at *
  obtain ⟨u, c⟩ := r
  simp only at hr HK
  have HZ := hide (Blk.new w 88 #[.int .i64 0, .int .u64 0, .slice none 0 0, .slice none 0 0])
  clear hi hx
  cases hc : ((c : Int) != 0) with
  | true =>
    have HR := hide (show leafV s i k = none by rw [HLV.out, HK.out, if_neg]; rintro ⟨a, _⟩; subst a; simp at hc)
    rcases hk with rfl | rfl
    all_goals
      go_enter Tryd.func82, Tryd.ntmps82
      go_wp2_with (first
      | (go_at_call 83; refine (HW.out _).mono ?_; rintro e w1 ⟨rfl, rfl⟩)
      | (go_at_call 28; refine (HN.out _).mono ?_; rintro e w1 ⟨rfl, rfl⟩))
      refine bodyPost_ret (results_cell_two rfl _ _ w.heap.size 88 _ (0, 0) _ rfl HZ.out Tryd.underlying88 rfl (by kernel_rfl)) rfl ?_
      exact node_no HR.out ((Only.refl [] w).alloc _)
  | false =>
    have hc0 : c = 0 := by simpa using hc
    rcases hk with rfl | rfl
    · by_cases hu : (u : Int) ≤ 4294967295
      · have HR := hide (show leafV s i 2 = some ((2, u, [], []), q) by rw [HLV.out, HK.out, if_pos ⟨hc0, by unfold allowedV; rw [if_pos rfl]; exact decide_eq_true hu⟩])
        have hu2 : ¬ (4294967295 : Int) < u := by omega
        clear hu hc0 hr
        have HF := hide (Blk.new w 88 #[.int .i64 2, .int .u64 (u : Nat), .slice none 0 0, .slice none 0 0])
        go_enter Tryd.func82, Tryd.ntmps82
        go_wp2_with (first
      | (go_at_call 83; refine (HW.out _).mono ?_; rintro e w1 ⟨rfl, rfl⟩)
      | (go_at_call 28; refine (HN.out _).mono ?_; rintro e w1 ⟨rfl, rfl⟩))
        refine bodyPost_ret (results_cell_two rfl _ _ w.heap.size 88 _ (0, 0) _ rfl HF.out Tryd.underlying88 rfl (by kernel_rfl)) rfl ?_
        exact node_flat HR.out ((Only.refl [] w).alloc _)
      · have HR := hide (show leafV s i 2 = none by rw [HLV.out, HK.out, if_neg]; rintro ⟨_, a⟩; unfold allowedV at a; rw [if_pos rfl] at a; exact hu (of_decide_eq_true a))
        have hu2 : (4294967295 : Int) < u := by omega
        clear hu hc0 hr
        go_enter Tryd.func82, Tryd.ntmps82
        go_wp2_with (first
      | (go_at_call 83; refine (HW.out _).mono ?_; rintro e w1 ⟨rfl, rfl⟩)
      | (go_at_call 28; refine (HN.out _).mono ?_; rintro e w1 ⟨rfl, rfl⟩))
        refine bodyPost_ret (results_cell_two rfl _ _ w.heap.size 88 _ (0, 0) _ rfl HZ.out Tryd.underlying88 rfl (by kernel_rfl)) rfl ?_
        exact node_no HR.out ((Only.refl [] w).alloc _)
    · have HR := hide (show leafV s i 3 = some ((3, u, [], []), q) by rw [HLV.out, HK.out, if_pos ⟨hc0, rfl⟩])
      clear hc0 hr
      have HF := hide (Blk.new w 88 #[.int .i64 3, .int .u64 (u : Nat), .slice none 0 0, .slice none 0 0])
      go_enter Tryd.func82, Tryd.ntmps82
      go_wp2_with (first
      | (go_at_call 83; refine (HW.out _).mono ?_; rintro e w1 ⟨rfl, rfl⟩)
      | (go_at_call 28; refine (HN.out _).mono ?_; rintro e w1 ⟨rfl, rfl⟩))
      refine bodyPost_ret (results_cell_two rfl _ _ w.heap.size 88 _ (0, 0) _ rfl HF.out Tryd.underlying88 rfl (by kernel_rfl)) rfl ?_
      exact node_flat HR.out ((Only.refl [] w).alloc _)

set_option maxRecDepth 100000 in
set_option maxHeartbeats 6400000 in
theorem leaf_data (w : World) (s : ByteArray) (i : Nat) (hi : i ≤ s.size) (hs : s.size ≤ 1000000) : Calls Tryd.prog 82 #[.string s, .int .i64 i, .int .i64 4] w (NodePost (leafV s i 4) w) := by
  have HW := hide (fun W => wordr_any W s i hi (by unfold maxLen; omega))
  have hx := extract_size s i (wendR s i)
  have HLV := hide (show leafV s i 4 = if (hexR (s.extract i (wendR s i)).data.toList).2 = 0 then some ((4, 0, (hexR (s.extract i (wendR s i)).data.toList).1, []), wendR s i) else none from rfl)
  unfold WordRPost at HW
  generalize wendR s i = q at *
  generalize s.extract i q = t at *
  have HN := hide (fun W => readhex_ref W t (by omega))
  unfold BytsPost at HN
  generalize hexR t.data.toList = r at *
  obtain ⟨l, c⟩ := r
  simp only at HN HLV
  have HB := hide (Blk.new w 88 #[.int .i64 0, .int .u64 0, .slice none 0 0, .slice none 0 0])
  have HO := hide ((Only.refl [] w).alloc (.cells #[.int .i64 0, .int .u64 0, .slice none 0 0, .slice none 0 0] 88))
  clear hi hx
  cases hc : ((c : Int) != 0) with
  | true =>
    have HR := hide (show leafV s i 4 = none by rw [HLV.out, if_neg]; intro a; subst a; simp at hc)
    go_enter Tryd.func82, Tryd.ntmps82
    go_wp2_with (first
      | (go_at_call 83; refine (HW.out _).mono ?_; rintro e w1 ⟨rfl, rfl⟩)
      | (go_at_call 27; refine (HN.out _).mono ?_; rintro e w2 ⟨bv, rfl, ho, hb⟩; have HO2 := hide (HO.out.trans ho); have HB2 := hide (HB.out.only ho (by simp)); have c0 := HB2.out.cell 0; have c1 := HB2.out.cell 1; have c2 := HB2.out.cell 2; have c3 := HB2.out.cell 3; simp at c0 c1 c2 c3; have f0 := HB2.out.frozen; clear ho hb))
    refine bodyPost_ret (results_cell_two rfl _ _ w.heap.size 88 _ (0, 0) _ rfl (((((HB2.out.set_ 0 _).set_ 1 _).set_ 2 _).set_ 3 _)) Tryd.underlying88 rfl (by kernel_rfl)) rfl ?_
    exact node_no HR.out (only_four0 HO2.out (.inr (Nat.le_refl _)))
  | false =>
    have hc0 : c = 0 := by simpa using hc
    subst hc0
    have HR := hide (show leafV s i 4 = some ((4, 0, l, []), q) by rw [HLV.out, if_pos rfl])
    go_enter Tryd.func82, Tryd.ntmps82
    go_wp2_with (first
      | (go_at_call 83; refine (HW.out _).mono ?_; rintro e w1 ⟨rfl, rfl⟩)
      | (go_at_call 27; refine (HN.out _).mono ?_; rintro e w2 ⟨bv, rfl, ho, hb⟩; obtain ⟨Ab, cb, rfl, _, _⟩ := (hb [] (by simp)).formb; have HBY := hide hb; have HO2 := hide (HO.out.trans ho); have HB2 := hide (HB.out.only ho (by simp)); have c0 := HB2.out.cell 0; have c1 := HB2.out.cell 1; have c2 := HB2.out.cell 2; have c3 := HB2.out.cell 3; simp at c0 c1 c2 c3; have f0 := HB2.out.frozen; clear ho hb))
    refine bodyPost_ret (results_cell_two rfl _ _ w.heap.size 88 _ (0, 0) _ rfl (((((HB2.out.set_ 0 _).set_ 1 _).set_ 2 _).set_ 3 _)) Tryd.underlying88 rfl (by kernel_rfl)) rfl ?_
    refine node_bytes HR.out (only_four0 HO2.out (.inr (Nat.le_refl _))) (fun N hN => ?_)
    exact ((HBY.out (w.heap.size :: N) (fun x hx => by
      rcases List.mem_cons.1 hx with rfl | hx
      · simp
      · have := hN x hx; simp; omega)).only (only_four0 (Only.refl [w.heap.size] w2) (.inl (by simp))) (fun x hx => by rw [List.mem_singleton.1 hx]; exact List.mem_cons_self)).less (fun x hx => List.mem_cons_of_mem _ hx)
end
section
open Go.RowKit Go.Deep

/-- Read from p on: a term (none), or the parts of a term, some of which are read (some). -/
def rt (s : ByteArray) : Nat → Option (Int × Nat × List ByteArray) → Nat → Option (Nd × Nat)
  | 0, _, _ => none
  | f + 1, none, p =>
    if kindV (atV s p : Nat) = 0 then none
    else if kindV (atV s p : Nat) ≤ 4 then leafV s (p + 1) (kindV (atV s p : Nat))
    else if atV s (p + 1) ≠ 40 then none
    else if kindV (atV s p : Nat) = 8 ∨ kindV (atV s p : Nat) = 10 then
      match numK (kindV (atV s p : Nat)) (s.extract (p + 2) (wendR s (p + 2))).data.toList with
      | none => none
      | some n => if atV s (wendR s (p + 2)) ≠ 44 then none else rt s f (some (kindV (atV s p : Nat), n, [])) (wendR s (p + 2) + 1)
    else if kindV (atV s p : Nat) = 11 ∧ atV s (p + 2) = 41 then some ((11, 0, [], []), p + 3)
    else rt s f (some (kindV (atV s p : Nat), 0, [])) (p + 2)
  | f + 1, some (k, n, parts), p =>
    match rt s f none p with
    | none => none
    | some (_, q) =>
      if atV s q = 41 then
        (if rightR k ((parts.length + 1 : Nat) : Int) = true ∧ ¬ (k = 6 ∧ gtB ((parts ++ [s.extract p q]).getD 0 ByteArray.empty) ((parts ++ [s.extract p q]).getD 1 ByteArray.empty) = true) then some ((k, n, [], parts ++ [s.extract p q]), q + 1) else none)
      else if atV s q ≠ 44 then none
      else rt s f (some (k, n, parts ++ [s.extract p q])) (q + 1)

theorem at_lt {s : ByteArray} {p : Nat} (h : atV s p ≠ 0) : p < s.size := by
  unfold atV at h
  split at h
  · assumption
  · exact absurd rfl h
theorem kind_at {s : ByteArray} {p : Nat} (h : kindV (atV s p : Nat) ≠ 0) : p < s.size := by
  apply at_lt
  intro e
  rw [e] at h
  exact h rfl
theorem leaf_bd {s : ByteArray} {i : Nat} {k : Int} {nd : Nd} {q : Nat} (hi : i ≤ s.size) (h : leafV s i k = some (nd, q)) : i ≤ q ∧ q ≤ s.size := by
  have w1 := wendR_ge s i
  have w2 := wendR_le s i hi
  unfold leafV at h
  repeat' split at h
  all_goals first
    | (cases h; done)
    | (simp only [Option.some.injEq, Prod.mk.injEq] at h; omega)
theorem rt_bd (s : ByteArray) : ∀ (f : Nat) (m : Option (Int × Nat × List ByteArray)) (p : Nat) (r : Nd) (q : Nat), rt s f m p = some (r, q) → p < q ∧ q ≤ s.size := by
  intro f
  induction f with
  | zero => intro m p r q h; simp [rt] at h
  | succ f ih =>
    intro m p r q h
    cases m with
    | none =>
      rw [rt] at h
      split at h
      · cases h
      · rename_i hk
        have hp := kind_at hk
        split at h
        · have := leaf_bd (show p + 1 ≤ s.size by omega) h
          omega
        · split at h
          · cases h
          · rename_i h40
            have hp1 := at_lt (s := s) (p := p + 1) (by omega)
            have w1 := wendR_ge s (p + 2)
            split at h
            · split at h
              · cases h
              · split at h
                · cases h
                · have h1 := ih _ _ _ _ h
                  omega
            · split at h
              · rename_i h2
                have hp2 := at_lt (s := s) (p := p + 2) (by omega)
                simp only [Option.some.injEq, Prod.mk.injEq] at h
                omega
              · have h1 := ih _ _ _ _ h
                omega
    | some kp =>
      obtain ⟨k, n, parts⟩ := kp
      rw [rt] at h
      split at h
      · cases h
      · rename_i nd q1 hq
        have h1 := ih _ _ _ _ hq
        split at h
        · rename_i h41
          have := at_lt (s := s) (p := q1) (by omega)
          split at h
          · simp only [Option.some.injEq, Prod.mk.injEq] at h
            omega
          · cases h
        · split at h
          · cases h
          · have h2 := ih _ _ _ _ h
            omega
section
variable {s : ByteArray} {f p : Nat}
theorem rt_k0 (h : kindV (atV s p : Nat) = 0) : rt s (f + 1) none p = none := by rw [rt, if_pos h]
theorem rt_leaf (h0 : kindV (atV s p : Nat) ≠ 0) (h : kindV (atV s p : Nat) ≤ 4) : rt s (f + 1) none p = leafV s (p + 1) (kindV (atV s p : Nat)) := by rw [rt, if_neg h0, if_pos h]
theorem rt_bare (h0 : kindV (atV s p : Nat) ≠ 0) (h : ¬ kindV (atV s p : Nat) ≤ 4) (h40 : atV s (p + 1) ≠ 40) : rt s (f + 1) none p = none := by rw [rt, if_neg h0, if_neg h, if_pos h40]
/-- What stands behind the bracket, and the number if there is one. -/
def rst (s : ByteArray) (f : Nat) (k : Int) (n j : Nat) : Option (Nd × Nat) := if k = 11 ∧ atV s j = 41 then some ((11, n, [], []), j + 1) else rt s f (some (k, n, [])) j
theorem rt_num (k : Int) (hk : k = kindV (atV s p : Nat)) (h8 : k = 8 ∨ k = 10) (h40 : atV s (p + 1) = 40) : rt s (f + 1) none p =
    match numK k (s.extract (p + 2) (wendR s (p + 2))).data.toList with
    | none => none
    | some n => if atV s (wendR s (p + 2)) ≠ 44 then none else rst s f k n (wendR s (p + 2) + 1) := by
  rw [rt, ← hk, if_neg (by omega), if_neg (by omega), if_neg (by rw [h40]; simp), if_pos h8]
  split
  · rfl
  · split
    · rfl
    · unfold rst
      rw [if_neg (by rintro ⟨h, _⟩; omega)]
theorem rt_open (k : Int) (hk : k = kindV (atV s p : Nat)) (h5 : 5 ≤ k) (h8 : ¬ (k = 8 ∨ k = 10)) (h40 : atV s (p + 1) = 40) : rt s (f + 1) none p = rst s f k 0 (p + 2) := by
  rw [rt, ← hk, if_neg (by omega), if_neg (by omega), if_neg (by rw [h40]; simp), if_neg h8]
  unfold rst
  split
  · rfl
  · rfl
end
/-- The contract of the reference's term, and of what its loop goes on with. -/
def TRSaid (s : ByteArray) (f : Nat) : Prop := ∀ (w : World) (p : Nat), p ≤ s.size → s.size ≤ 1000000 → 2 * (s.size - p) + 1 ≤ f →
  Calls Tryd.prog 68 #[.string s, .int .i64 p] w (NodePost (rt s f none p) w)
end
section
open Go.RowKit Go.Deep

abbrev zeroN : Array Value := #[.int .i64 0, .int .u64 0, .slice none 0 0, .slice none 0 0]

theorem node_keep {w w2 : World} {v : Value} {xs : List Value} {x y z u : Value} (h : ∀ N : List Nat, (∀ x ∈ N, x < (w.alloc (.cells zeroN 88)).heap.size) → Rd w2 N v xs) :
    ∀ N : List Nat, (∀ x ∈ N, x < w.heap.size) → Rd ((((w2.setCell ⟨w.heap.size, 0, none⟩ x).setCell ⟨w.heap.size, 1, none⟩ y).setCell ⟨w.heap.size, 2, none⟩ z).setCell ⟨w.heap.size, 3, none⟩ u) N v xs := by
  intro N hN
  exact ((h (w.heap.size :: N) (fun x hx => by
    rcases List.mem_cons.1 hx with rfl | hx
    · simp
    · have := hN x hx; simp; omega)).only (only_four0 (Only.refl [w.heap.size] w2) (.inl (by simp))) (fun x hx => by rw [List.mem_singleton.1 hx]; exact List.mem_cons_self)).less (fun x hx => List.mem_cons_of_mem _ hx)

set_option maxRecDepth 100000 in
set_option maxHeartbeats 6400000 in
/-- No kind's letter; a kind without parts; no bracket behind the letter. -/
theorem term_short (s : ByteArray) (f : Nat) (w : World) (p : Nat) (_hp : p ≤ s.size) (hs : s.size ≤ 1000000) (hk : kindV (atV s p : Nat) ≤ 4 ∨ atV s (p + 1) ≠ 40) :
    Calls Tryd.prog 68 #[.string s, .int .i64 p] w (NodePost (rt s (f + 1) none p) w) := by
  have HA := hide (fun W (q : Nat) => atr_any W s q (by unfold maxLen; omega))
  have HB := hide (Blk.new w 88 zeroN)
  have HO := hide ((Only.refl [] w).alloc (.cells zeroN 88))
  have HKA := hide (show kindV (atV s p : Nat) ≠ 0 → p < s.size from kind_at)
  have HKA := hide (show kindV (atV s p : Nat) ≠ 0 → p < s.size from kind_at)
  have HK := hide (fun W => kindr_any (atV s p : Nat) W)
  by_cases h0 : kindV (atV s p : Nat) = 0
  · have HR := hide (rt_k0 (f := f) h0)
    rw [h0] at HK
    clear h0 hk
    go_enter Tryd.func68, Tryd.ntmps68
    go_wp2_with (first
      | (go_at_call 81; refine (HA.out _ _).mono ?_; rintro e w1 ⟨rfl, rfl⟩)
      | (go_at_call 80; refine (HK.out _).mono ?_; rintro e w1 ⟨rfl, rfl⟩))
    refine bodyPost_ret (results_cell_two rfl _ _ w.heap.size 88 _ (0, 0) _ rfl HB.out Tryd.underlying88 rfl (by kernel_rfl)) rfl ?_
    exact node_no HR.out HO.out
  have hps := HKA.out h0
  by_cases h4 : kindV (atV s p : Nat) ≤ 4
  · have hrt := rt_leaf (f := f) h0 h4
    have hk1 : kindV (atV s p : Nat) = 1 ∨ kindV (atV s p : Nat) = 2 ∨ kindV (atV s p : Nat) = 3 ∨ kindV (atV s p : Nat) = 4 := by
      have := kind_range (atV s p : Nat)
      omega
    have HLF : Hid (∀ W, Calls Tryd.prog 82 #[.string s, .int .i64 ((p : Int) + 1), .int .i64 (kindV (atV s p : Nat))] W (NodePost (rt s (f + 1) none p) W)) := hide fun W => by
      rw [hrt, show ((p : Int) + 1) = ((p + 1 : Nat) : Int) by omega]
      rcases hk1 with h | h | h | h
      · rw [h]; exact leaf_one W s (p + 1)
      · rw [h]; exact leaf_num W s (p + 1) 2 (.inl rfl) (by omega) hs
      · rw [h]; exact leaf_num W s (p + 1) 3 (.inr rfl) (by omega) hs
      · rw [h]; exact leaf_data W s (p + 1) (by omega) hs
    clear hrt hk
    generalize kindV (atV s p : Nat) = k at *
    generalize rt s (f + 1) none p = R at *
    have e0 : (k == 0) = false := by rw [beq_eq_false_iff_ne]; exact h0
    clear h0 hk1
    cases R with
    | none =>
      unfold NodePost at HLF
      go_enter Tryd.func68, Tryd.ntmps68
      go_wp2_with (first
        | (go_at_call 81; refine (HA.out _ _).mono ?_; rintro e w1 ⟨rfl, rfl⟩)
        | (go_at_call 80; refine (HK.out _).mono ?_; rintro e w1 ⟨rfl, rfl⟩)
        | (go_at_call 82; refine (HLF.out _).mono ?_; rintro e w2 ⟨rfl, ho⟩; have HO2 := hide (HO.out.trans ho); have HB2 := hide (HB.out.only ho (by simp)); have c0 := HB2.out.cell 0; have c1 := HB2.out.cell 1; have c2 := HB2.out.cell 2; have c3 := HB2.out.cell 3; simp at c0 c1 c2 c3; have f0 := HB2.out.frozen; clear ho))
      refine bodyPost_ret (results_cell_two rfl _ _ w.heap.size 88 _ (0, 0) _ rfl (((((HB2.out.set_ 0 _).set_ 1 _).set_ 2 _).set_ 3 _)) Tryd.underlying88 rfl (by kernel_rfl)) rfl ?_
      exact node_no rfl (only_four0 HO2.out (.inr (Nat.le_refl _)))
    | some nq =>
      obtain ⟨⟨kk, n, l, ps⟩, q⟩ := nq
      unfold NodePost at HLF
      simp only at HLF
      go_enter Tryd.func68, Tryd.ntmps68
      go_wp2_with (first
        | (go_at_call 81; refine (HA.out _ _).mono ?_; rintro e w1 ⟨rfl, rfl⟩)
        | (go_at_call 80; refine (HK.out _).mono ?_; rintro e w1 ⟨rfl, rfl⟩)
        | (go_at_call 82; refine (HLF.out _).mono ?_; rintro e w2 ⟨bv, pv, rfl, ho, hb, hpv⟩; obtain ⟨Ab, cb, rfl, _, _⟩ := (hb [] (by simp)).formb; obtain ⟨Ap, cp, rfl, _, _⟩ := (hpv [] (by simp)).form; have HBY := hide hb; have HPV := hide hpv; have HO2 := hide (HO.out.trans ho); have HB2 := hide (HB.out.only ho (by simp)); have c0 := HB2.out.cell 0; have c1 := HB2.out.cell 1; have c2 := HB2.out.cell 2; have c3 := HB2.out.cell 3; simp at c0 c1 c2 c3; have f0 := HB2.out.frozen; clear ho hb hpv))
      refine bodyPost_ret (results_cell_two rfl _ _ w.heap.size 88 _ (0, 0) _ rfl (((((HB2.out.set_ 0 _).set_ 1 _).set_ 2 _).set_ 3 _)) Tryd.underlying88 rfl (by kernel_rfl)) rfl ?_
      exact ⟨_, _, rfl, only_four0 HO2.out (.inr (Nat.le_refl _)), node_keep HBY.out, node_keep HPV.out⟩
  · have h40 : atV s (p + 1) ≠ 40 := hk.resolve_left h4
    have HR := hide (rt_bare (f := f) h0 h4 h40)
    generalize kindV (atV s p : Nat) = k at *
    have e0 : (k == 0) = false := by rw [beq_eq_false_iff_ne]; exact h0
    have h4I : ¬ k ≤ 4 := h4
    have h40I : ((atV s (p + 1) : Nat) : Int) ≠ 40 := by omega
    have HA1 := hide (show ∀ W, Calls Tryd.prog 81 #[.string s, .int .i64 ((p : Int) + 1)] W fun e w' => e = .returned (.int .u8 (atV s (p + 1) : Nat)) ∧ W = w' from fun W => by have h := HA.out W (p + 1); rwa [show ((p + 1 : Nat) : Int) = (p : Int) + 1 by omega] at h)
    generalize atV s (p + 1) = c1 at *
    have HF := hide ((HB.out.alloc (.cells #[.int .i64 k, .int .u64 0, .slice none 0 0, .slice none 0 0] 88)))
    clear h0 hk h4 h40
    go_enter Tryd.func68, Tryd.ntmps68
    go_wp2_with (first
      | (go_at_call 81; (with_reducible refine (HA1.out _).mono ?_); rintro e w1 ⟨rfl, rfl⟩)
      | (go_at_call 81; refine (HA.out _ _).mono ?_; rintro e w1 ⟨rfl, rfl⟩)
      | (go_at_call 80; refine (HK.out _).mono ?_; rintro e w1 ⟨rfl, rfl⟩))
    refine bodyPost_ret (results_cell_two rfl _ _ w.heap.size 88 _ (0, 0) _ rfl HF.out Tryd.underlying88 rfl (by kernel_rfl)) rfl ?_
    exact node_no HR.out (HO.out.alloc _)
end
section
open Go.RowKit Go.Deep

theorem numK_no {k : Int} {l : List UInt8} {u c : Nat} (h : numR l = (u, c)) : numK k l = none ↔ (c ≠ 0 ∨ allowedV k u = false) := by
  unfold numK
  rw [h]
  simp only
  constructor
  · intro hh
    split at hh
    · cases hh
    · rename_i h1
      by_cases hc : c = 0
      · right
        cases ha : allowedV k u with
        | false => rfl
        | true => exact absurd ⟨hc, ha⟩ h1
      · exact .inl hc
  · intro hh
    rw [if_neg]
    rintro ⟨h1, h2⟩
    rcases hh with hh | hh
    · exact hh h1
    · rw [hh] at h2; cases h2
theorem numK_yes {k : Int} {l : List UInt8} {u c n : Nat} (h : numR l = (u, c)) (hn : numK k l = some n) : c = 0 ∧ allowedV k u = true ∧ n = u := by
  unfold numK at hn
  rw [h] at hn
  simp only at hn
  split at hn
  · rename_i h1
    injection hn with hn
    exact ⟨h1.1, h1.2, hn.symm⟩
  · cases hn

theorem own_ne {w : World} {base e size n g t : Nat} {v : Value} {xs : List Value} {cs : Array Value} (h : w.ownsRow base e size v n xs) (hg : Blk w g t cs) (hte : t ≠ e) : some g ≠ v.ownBlock := by
  rcases h.2 with ⟨rfl, _⟩ | ⟨g3, cap, cur, rfl, _, hh, _⟩
  · intro h; cases h
  · intro h
    injection h with h
    subst h
    exact (Blk.ne_ (t' := e) (cs' := cur) hg hh hte) rfl

theorem own_set {w : World} {base e size n g t : Nat} {v : Value} {xs : List Value} {cs : Array Value} (h : w.ownsRow base e size v n xs) (hg : Blk w g t cs) (hte : t ≠ e) (i : Nat) (x : Value) : (w.setCell ⟨g, i, none⟩ x).ownsRow base e size v n xs := by
  have hne := own_ne h hg hte
  obtain ⟨h1, h2⟩ := h
  refine ⟨h1, ?_⟩
  rcases h2 with h2 | ⟨g3, cap, cur, rfl, hb, hh, h3⟩
  · exact .inl h2
  · refine .inr ⟨g3, cap, cur, rfl, hb, ?_, h3⟩
    exact Blk.far (t := e) (cs := cur) (p := ⟨g, i, none⟩) hh (fun e' => hne (show some g = some g3 from congrArg some e'.symm)) x

theorem own_four {w : World} {base e size n g t : Nat} {v : Value} {xs : List Value} {cs : Array Value} {a b c d : Value} (h : w.ownsRow base e size v n xs) (hg : Blk w g t cs) (hte : t ≠ e) :
    ((((w.setCell ⟨g, 0, none⟩ a).setCell ⟨g, 1, none⟩ b).setCell ⟨g, 2, none⟩ c).setCell ⟨g, 3, none⟩ d).ownsRow base e size v n xs :=
  own_set (own_set (own_set (own_set h hg hte 0 a) (hg.set_ 0 a) hte 1 b) ((hg.set_ 0 a).set_ 1 b) hte 2 c) (((hg.set_ 0 a).set_ 1 b).set_ 2 c) hte 3 d
theorem node_parts {r : Option (Nd × Nat)} {k : Int} {n q m c : Nat} {parts : List ByteArray} {A : Option Addr} {w w' : World} {qI : Int} (h : r = some ((k, n, [], parts), q)) (ho : Only [] w w') (hp : w'.ownsRow w.heap.size 9 1 (.slice A m c) m (strs parts)) (_hm : parts.length = m) (hq : qI = (q : Nat)) :
    NodePost r w (.returned (.tuple #[.agg #[.int .i64 k, .int .u64 (n : Nat), .slice none 0 0, .slice A m c], .int .i64 qI])) w' := by
  subst h hq
  exact ⟨_, _, rfl, ho, fun N _ => Rd.nil _ N, fun N hN => (Rd.of_own hp hN).1⟩
end
end Go.Proofs.YteoifokmbkpbnaaDoor

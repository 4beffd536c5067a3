/-
  Walks and plain words (texts Rt2, Rt3, Rt4, Rt5). No condition beyond those that each theorem states.
-/
import Derived.Test.YtfipdjlalfpbnaaGreatDoorM01
import Derived.Test.YtfipdjlalfpbnaaGreatDoorM12
namespace Go.Proofs.YtfipdjlalfpbnaaGreatDoor
section
open Go.RowKit Go.Deep

/-- What the reference's term, or leaf, hands back. -/
def NodePost (r : Option (Nd × Nat)) (w : World) (e : Ending) (w' : World) : Prop :=
  match r with
  | none => e = .returned (.tuple #[.agg #[.int .i64 0, .int .u64 0, .slice none 0 0, .slice none 0 0], .int .i64 (-1)]) ∧ Only [] w w'
  | some (nd, q) => ∃ bv pv, e = .returned (.tuple #[.agg #[.int .i64 nd.1, .int .u64 nd.2.1, bv, pv], .int .i64 (q : Nat)]) ∧ Only [] w w' ∧
      (∀ N : List Nat, (∀ x ∈ N, x < w.heap.size) → Rd w' N bv (ints .u8 (byts nd.2.2.1))) ∧ (∀ N : List Nat, (∀ x ∈ N, x < w.heap.size) → Rd w' N pv (strs nd.2.2.2))
def leafV (s : ByteArray) (i : Nat) (k : Int) : Option (Nd × Nat) :=
  if k = 1 then some ((1, 0, [], []), i)
  else if k = 4 then (if (hexR (s.extract i (wendR s i)).data.toList).2 = 0 then some ((4, 0, (hexR (s.extract i (wendR s i)).data.toList).1, []), wendR s i) else none)
  else match numK k (s.extract i (wendR s i)).data.toList with
    | none => none
    | some n => some ((k, n, [], []), wendR s i)
theorem node_no {r : Option (Nd × Nat)} {w w' : World} (h : r = none) (ho : Only [] w w') : NodePost r w (.returned (.tuple #[.agg #[.int .i64 0, .int .u64 0, .slice none 0 0, .slice none 0 0], .int .i64 (-1)])) w' := by subst h; exact ⟨rfl, ho⟩
theorem node_flat {r : Option (Nd × Nat)} {k : Int} {n q : Nat} {w w' : World} (h : r = some ((k, n, [], []), q)) (ho : Only [] w w') : NodePost r w (.returned (.tuple #[.agg #[.int .i64 k, .int .u64 (n : Nat), .slice none 0 0, .slice none 0 0], .int .i64 (q : Nat)])) w' := by
  subst h; exact ⟨_, _, rfl, ho, fun N _ => Rd.nil _ N, fun N _ => Rd.nil _ N⟩
theorem node_bytes {r : Option (Nd × Nat)} {l : List UInt8} {q : Nat} {bv : Value} {w w' : World} (h : r = some ((4, 0, l, []), q)) (ho : Only [] w w') (hb : ∀ N : List Nat, (∀ x ∈ N, x < w.heap.size) → Rd w' N bv (ints .u8 (byts l))) :
    NodePost r w (.returned (.tuple #[.agg #[.int .i64 4, .int .u64 0, bv, .slice none 0 0], .int .i64 (q : Nat)])) w' := by
  subst h; exact ⟨_, _, rfl, ho, hb, fun N _ => Rd.nil _ N⟩

theorem only_four0 {S : List Nat} {w w' : World} {B : Nat} {x y z u : Value} (h : Only S w w') (hB : B ∈ S ∨ w.heap.size ≤ B) :
    Only S w ((((w'.setCell ⟨B, 0, none⟩ x).setCell ⟨B, 1, none⟩ y).setCell ⟨B, 2, none⟩ z).setCell ⟨B, 3, none⟩ u) :=
  (((h.setCell (p := ⟨B, 0, none⟩) hB x).setCell (p := ⟨B, 1, none⟩) hB y).setCell (p := ⟨B, 2, none⟩) hB z).setCell (p := ⟨B, 3, none⟩) hB u

set_option maxRecDepth 100000 in
set_option maxHeartbeats 3200000 in
theorem leaf_one (w : World) (s : ByteArray) (i : Nat) : Calls Tryz.prog 124 #[.string s, .int .i64 i, .int .i64 1] w (NodePost (leafV s i 1) w) := by
  have HR := hide (show leafV s i 1 = some ((1, 0, [], []), i) from rfl)
  have HF := hide (Blk.new w 77 #[.int .i64 1, .int .u64 0, .slice none 0 0, .slice none 0 0])
  go_enter Tryz.func124, Tryz.ntmps124
  go_wp2_with fail
  refine bodyPost_ret (results_cell_two rfl _ _ w.heap.size 77 _ (0, 0) _ rfl HF.out Tryz.underlying77 rfl (by kernel_rfl)) rfl ?_
  exact node_flat HR.out ((Only.refl [] w).alloc _)

set_option maxRecDepth 100000 in
set_option maxHeartbeats 6400000 in
theorem leaf_num (w : World) (s : ByteArray) (i : Nat) (k : Int) (hk : k = 2 ∨ k = 3) (hi : i ≤ s.size) (hs : s.size ≤ 1000000) : Calls Tryz.prog 124 #[.string s, .int .i64 i, .int .i64 k] w (NodePost (leafV s i k) w) := by
  have HW := hide (fun W => wordr_any W s i hi (by unfold maxLen; omega))
  have hx := extract_size s i (wendR s i)
  have HLV := hide (show leafV s i k = match numK k (s.extract i (wendR s i)).data.toList with | none => none | some n => some ((k, n, [], []), wendR s i) by unfold leafV; rw [if_neg (by omega), if_neg (by omega)])
  unfold WordRPost at HW
  generalize wendR s i = q at *
  generalize s.extract i q = t at *
  have HN := hide (fun W => read_ref W t (by omega))
  unfold NumRPost' at HN
  have hr := numR_lt t.data.toList
  have HK := hide (show numK k t.data.toList = if (numR t.data.toList).2 = 0 ∧ allowedV k (numR t.data.toList).1 = true then some (numR t.data.toList).1 else none from rfl)
  generalize numR t.data.toList = r at *
  obtain ⟨u, c⟩ := r
  simp only at hr HK
  have HZ := hide (Blk.new w 77 #[.int .i64 0, .int .u64 0, .slice none 0 0, .slice none 0 0])
  clear hi hx
  cases hc : ((c : Int) != 0) with
  | true =>
    have HR := hide (show leafV s i k = none by rw [HLV.out, HK.out, if_neg]; rintro ⟨a, _⟩; subst a; simp at hc)
    rcases hk with rfl | rfl
    all_goals
      go_enter Tryz.func124, Tryz.ntmps124
      go_wp2_with (first
      | (go_at_call 125; refine (HW.out _).mono ?_; rintro e w1 ⟨rfl, rfl⟩)
      | (go_at_call 126; refine (HN.out _).mono ?_; rintro e w1 ⟨rfl, rfl⟩))
      refine bodyPost_ret (results_cell_two rfl _ _ w.heap.size 77 _ (0, 0) _ rfl HZ.out Tryz.underlying77 rfl (by kernel_rfl)) rfl ?_
      exact node_no HR.out ((Only.refl [] w).alloc _)
  | false =>
    have hc0 : c = 0 := by simpa using hc
    rcases hk with rfl | rfl
    · by_cases hu : (u : Int) ≤ 4294967295
      · have HR := hide (show leafV s i 2 = some ((2, u, [], []), q) by rw [HLV.out, HK.out, if_pos ⟨hc0, by unfold allowedV; rw [if_pos rfl]; exact decide_eq_true hu⟩])
        have hu2 : ¬ (4294967295 : Int) < u := by omega
        clear hu hc0 hr
        have HF := hide (Blk.new w 77 #[.int .i64 2, .int .u64 (u : Nat), .slice none 0 0, .slice none 0 0])
        go_enter Tryz.func124, Tryz.ntmps124
        go_wp2_with (first
      | (go_at_call 125; refine (HW.out _).mono ?_; rintro e w1 ⟨rfl, rfl⟩)
      | (go_at_call 126; refine (HN.out _).mono ?_; rintro e w1 ⟨rfl, rfl⟩))
        refine bodyPost_ret (results_cell_two rfl _ _ w.heap.size 77 _ (0, 0) _ rfl HF.out Tryz.underlying77 rfl (by kernel_rfl)) rfl ?_
        exact node_flat HR.out ((Only.refl [] w).alloc _)
      · have HR := hide (show leafV s i 2 = none by rw [HLV.out, HK.out, if_neg]; rintro ⟨_, a⟩; unfold allowedV at a; rw [if_pos rfl] at a; exact hu (of_decide_eq_true a))
        have hu2 : (4294967295 : Int) < u := by omega
        clear hu hc0 hr
        go_enter Tryz.func124, Tryz.ntmps124
        go_wp2_with (first
      | (go_at_call 125; refine (HW.out _).mono ?_; rintro e w1 ⟨rfl, rfl⟩)
      | (go_at_call 126; refine (HN.out _).mono ?_; rintro e w1 ⟨rfl, rfl⟩))
        refine bodyPost_ret (results_cell_two rfl _ _ w.heap.size 77 _ (0, 0) _ rfl HZ.out Tryz.underlying77 rfl (by kernel_rfl)) rfl ?_
        exact node_no HR.out ((Only.refl [] w).alloc _)
    · have HR := hide (show leafV s i 3 = some ((3, u, [], []), q) by rw [HLV.out, HK.out, if_pos ⟨hc0, rfl⟩])
      clear hc0 hr
      have HF := hide (Blk.new w 77 #[.int .i64 3, .int .u64 (u : Nat), .slice none 0 0, .slice none 0 0])
      go_enter Tryz.func124, Tryz.ntmps124
      go_wp2_with (first
      | (go_at_call 125; refine (HW.out _).mono ?_; rintro e w1 ⟨rfl, rfl⟩)
      | (go_at_call 126; refine (HN.out _).mono ?_; rintro e w1 ⟨rfl, rfl⟩))
      refine bodyPost_ret (results_cell_two rfl _ _ w.heap.size 77 _ (0, 0) _ rfl HF.out Tryz.underlying77 rfl (by kernel_rfl)) rfl ?_
      exact node_flat HR.out ((Only.refl [] w).alloc _)

set_option maxRecDepth 100000 in
set_option maxHeartbeats 6400000 in
theorem leaf_data (w : World) (s : ByteArray) (i : Nat) (hi : i ≤ s.size) (hs : s.size ≤ 1000000) : Calls Tryz.prog 124 #[.string s, .int .i64 i, .int .i64 4] w (NodePost (leafV s i 4) w) := by
  have HW := hide (fun W => wordr_any W s i hi (by unfold maxLen; omega))
  have hx := extract_size s i (wendR s i)
  have HLV := hide (show leafV s i 4 = if (hexR (s.extract i (wendR s i)).data.toList).2 = 0 then some ((4, 0, (hexR (s.extract i (wendR s i)).data.toList).1, []), wendR s i) else none from rfl)
  unfold WordRPost at HW
  generalize wendR s i = q at *
  generalize s.extract i q = t at *
  have HN := hide (fun W => readhex_ref W t (by omega))
  unfold BytsPost at HN
  generalize hexR t.data.toList = r at *
  obtain ⟨l, c⟩ := r
  simp only at HN HLV
  have HB := hide (Blk.new w 77 #[.int .i64 0, .int .u64 0, .slice none 0 0, .slice none 0 0])
  have HO := hide ((Only.refl [] w).alloc (.cells #[.int .i64 0, .int .u64 0, .slice none 0 0, .slice none 0 0] 77))
  clear hi hx
  cases hc : ((c : Int) != 0) with
  | true =>
    have HR := hide (show leafV s i 4 = none by rw [HLV.out, if_neg]; intro a; subst a; simp at hc)
    go_enter Tryz.func124, Tryz.ntmps124
    go_wp2_with (first
      | (go_at_call 125; refine (HW.out _).mono ?_; rintro e w1 ⟨rfl, rfl⟩)
      | (go_at_call 141; refine (HN.out _).mono ?_; rintro e w2 ⟨bv, rfl, ho, hb⟩; have HO2 := hide (HO.out.trans ho); have HB2 := hide (HB.out.only ho (by simp)); have c0 := HB2.out.cell 0; have c1 := HB2.out.cell 1; have c2 := HB2.out.cell 2; have c3 := HB2.out.cell 3; simp at c0 c1 c2 c3; have f0 := HB2.out.frozen; clear ho hb))
    refine bodyPost_ret (results_cell_two rfl _ _ w.heap.size 77 _ (0, 0) _ rfl (((((HB2.out.set_ 0 _).set_ 1 _).set_ 2 _).set_ 3 _)) Tryz.underlying77 rfl (by kernel_rfl)) rfl ?_
    exact node_no HR.out (only_four0 HO2.out (.inr (Nat.le_refl _)))
  | false =>
    have hc0 : c = 0 := by simpa using hc
    subst hc0
    have HR := hide (show leafV s i 4 = some ((4, 0, l, []), q) by rw [HLV.out, if_pos rfl])
    go_enter Tryz.func124, Tryz.ntmps124
    go_wp2_with (first
      | (go_at_call 125; refine (HW.out _).mono ?_; rintro e w1 ⟨rfl, rfl⟩)
      | (go_at_call 141; refine (HN.out _).mono ?_; rintro e w2 ⟨bv, rfl, ho, hb⟩; obtain ⟨Ab, cb, rfl, _, _⟩ := (hb [] (by simp)).formb; have HBY := hide hb; have HO2 := hide (HO.out.trans ho); have HB2 := hide (HB.out.only ho (by simp)); have c0 := HB2.out.cell 0; have c1 := HB2.out.cell 1; have c2 := HB2.out.cell 2; have c3 := HB2.out.cell 3; simp at c0 c1 c2 c3; have f0 := HB2.out.frozen; clear ho hb))
    refine bodyPost_ret (results_cell_two rfl _ _ w.heap.size 77 _ (0, 0) _ rfl (((((HB2.out.set_ 0 _).set_ 1 _).set_ 2 _).set_ 3 _)) Tryz.underlying77 rfl (by kernel_rfl)) rfl ?_
    refine node_bytes HR.out (only_four0 HO2.out (.inr (Nat.le_refl _))) (fun N hN => ?_)
    exact ((HBY.out (w.heap.size :: N) (fun x hx => by
      rcases List.mem_cons.1 hx with rfl | hx
      · simp
      · have := hN x hx; simp; omega)).only (only_four0 (Only.refl [w.heap.size] w2) (.inl (by simp))) (fun x hx => by rw [List.mem_singleton.1 hx]; exact List.mem_cons_self)).less (fun x hx => List.mem_cons_of_mem _ hx)
end
section
open Go.RowKit Go.Deep

/-- Read from p on: a term (none), or the parts of a term, some of which are read (some). -/
def rt (s : ByteArray) : Nat → Option (Int × Nat × List ByteArray) → Nat → Option (Nd × Nat)
  | 0, _, _ => none
  | f + 1, none, p =>
    if kindV (atV s p : Nat) = 0 then none
    else if kindV (atV s p : Nat) ≤ 4 then leafV s (p + 1) (kindV (atV s p : Nat))
    else if atV s (p + 1) ≠ 40 then none
    else if kindV (atV s p : Nat) = 8 ∨ kindV (atV s p : Nat) = 10 then
      match numK (kindV (atV s p : Nat)) (s.extract (p + 2) (wendR s (p + 2))).data.toList with
      | none => none
      | some n => if atV s (wendR s (p + 2)) ≠ 44 then none else rt s f (some (kindV (atV s p : Nat), n, [])) (wendR s (p + 2) + 1)
    else if kindV (atV s p : Nat) = 11 ∧ atV s (p + 2) = 41 then some ((11, 0, [], []), p + 3)
    else rt s f (some (kindV (atV s p : Nat), 0, [])) (p + 2)
  | f + 1, some (k, n, parts), p =>
    match rt s f none p with
    | none => none
    | some (_, q) =>
      if atV s q = 41 then
        (if rightR k ((parts.length + 1 : Nat) : Int) = true ∧ ¬ (k = 6 ∧ gtB ((parts ++ [s.extract p q]).getD 0 ByteArray.empty) ((parts ++ [s.extract p q]).getD 1 ByteArray.empty) = true) then some ((k, n, [], parts ++ [s.extract p q]), q + 1) else none)
      else if atV s q ≠ 44 then none
      else rt s f (some (k, n, parts ++ [s.extract p q])) (q + 1)

theorem at_lt {s : ByteArray} {p : Nat} (h : atV s p ≠ 0) : p < s.size := by
  unfold atV at h
  split at h
  · assumption
  · exact absurd rfl h
theorem kind_at {s : ByteArray} {p : Nat} (h : kindV (atV s p : Nat) ≠ 0) : p < s.size := by
  apply at_lt
  intro e
  rw [e] at h
  exact h rfl
theorem leaf_bd {s : ByteArray} {i : Nat} {k : Int} {nd : Nd} {q : Nat} (hi : i ≤ s.size) (h : leafV s i k = some (nd, q)) : i ≤ q ∧ q ≤ s.size := by
  have w1 := wendR_ge s i
  have w2 := wendR_le s i hi
  unfold leafV at h
  repeat' split at h
  all_goals first
    | (cases h; done)
    | (simp only [Option.some.injEq, Prod.mk.injEq] at h; omega)
theorem rt_bd (s : ByteArray) : ∀ (f : Nat) (m : Option (Int × Nat × List ByteArray)) (p : Nat) (r : Nd) (q : Nat), rt s f m p = some (r, q) → p < q ∧ q ≤ s.size := by
  intro f
  induction f with
  | zero => intro m p r q h; simp [rt] at h
  | succ f ih =>
    intro m p r q h
    cases m with
    | none =>
      rw [rt] at h
      split at h
      · cases h
      · rename_i hk
        have hp := kind_at hk
        split at h
        · have := leaf_bd (show p + 1 ≤ s.size by omega) h
          omega
        · split at h
          · cases h
          · rename_i h40
            have hp1 := at_lt (s := s) (p := p + 1) (by omega)
            have w1 := wendR_ge s (p + 2)
            split at h
            · split at h
              · cases h
              · split at h
                · cases h
                · have h1 := ih _ _ _ _ h
                  omega
            · split at h
              · rename_i h2
                have hp2 := at_lt (s := s) (p := p + 2) (by omega)
                simp only [Option.some.injEq, Prod.mk.injEq] at h
                omega
              · have h1 := ih _ _ _ _ h
                omega
    | some kp =>
      obtain ⟨k, n, parts⟩ := kp
      rw [rt] at h
      split at h
      · cases h
      · rename_i nd q1 hq
        have h1 := ih _ _ _ _ hq
        split at h
        · rename_i h41
          have := at_lt (s := s) (p := q1) (by omega)
          split at h
          · simp only [Option.some.injEq, Prod.mk.injEq] at h
            omega
          · cases h
        · split at h
          · cases h
          · have h2 := ih _ _ _ _ h
            omega
section
variable {s : ByteArray} {f p : Nat}
theorem rt_k0 (h : kindV (atV s p : Nat) = 0) : rt s (f + 1) none p = none := by rw [rt, if_pos h]
theorem rt_leaf (h0 : kindV (atV s p : Nat) ≠ 0) (h : kindV (atV s p : Nat) ≤ 4) : rt s (f + 1) none p = leafV s (p + 1) (kindV (atV s p : Nat)) := by rw [rt, if_neg h0, if_pos h]
theorem rt_bare (h0 : kindV (atV s p : Nat) ≠ 0) (h : ¬ kindV (atV s p : Nat) ≤ 4) (h40 : atV s (p + 1) ≠ 40) : rt s (f + 1) none p = none := by rw [rt, if_neg h0, if_neg h, if_pos h40]
/-- What stands behind the bracket, and the number if there is one. -/
def rst (s : ByteArray) (f : Nat) (k : Int) (n j : Nat) : Option (Nd × Nat) := if k = 11 ∧ atV s j = 41 then some ((11, n, [], []), j + 1) else rt s f (some (k, n, [])) j
theorem rt_num (k : Int) (hk : k = kindV (atV s p : Nat)) (h8 : k = 8 ∨ k = 10) (h40 : atV s (p + 1) = 40) : rt s (f + 1) none p =
    match numK k (s.extract (p + 2) (wendR s (p + 2))).data.toList with
    | none => none
    | some n => if atV s (wendR s (p + 2)) ≠ 44 then none else rst s f k n (wendR s (p + 2) + 1) := by
  rw [rt, ← hk, if_neg (by omega), if_neg (by omega), if_neg (by rw [h40]; simp), if_pos h8]
  split
  · rfl
  · split
    · rfl
    · unfold rst
      rw [if_neg (by rintro ⟨h, _⟩; omega)]
theorem rt_open (k : Int) (hk : k = kindV (atV s p : Nat)) (h5 : 5 ≤ k) (h8 : ¬ (k = 8 ∨ k = 10)) (h40 : atV s (p + 1) = 40) : rt s (f + 1) none p = rst s f k 0 (p + 2) := by
  rw [rt, ← hk, if_neg (by omega), if_neg (by omega), if_neg (by rw [h40]; simp), if_neg h8]
  unfold rst
  split
  · rfl
  · rfl
end
/-- The contract of the reference's term, and of what its loop goes on with. -/
def TRSaid (s : ByteArray) (f : Nat) : Prop := ∀ (w : World) (p : Nat), p ≤ s.size → s.size ≤ 1000000 → 2 * (s.size - p) + 1 ≤ f →
  Calls Tryz.prog 97 #[.string s, .int .i64 p] w (NodePost (rt s f none p) w)
end
section
open Go.RowKit Go.Deep

abbrev zeroN : Array Value := #[.int .i64 0, .int .u64 0, .slice none 0 0, .slice none 0 0]

theorem node_keep {w w2 : World} {v : Value} {xs : List Value} {x y z u : Value} (h : ∀ N : List Nat, (∀ x ∈ N, x < (w.alloc (.cells zeroN 77)).heap.size) → Rd w2 N v xs) :
    ∀ N : List Nat, (∀ x ∈ N, x < w.heap.size) → Rd ((((w2.setCell ⟨w.heap.size, 0, none⟩ x).setCell ⟨w.heap.size, 1, none⟩ y).setCell ⟨w.heap.size, 2, none⟩ z).setCell ⟨w.heap.size, 3, none⟩ u) N v xs := by
  intro N hN
  exact ((h (w.heap.size :: N) (fun x hx => by
    rcases List.mem_cons.1 hx with rfl | hx
    · simp
    · have := hN x hx; simp; omega)).only (only_four0 (Only.refl [w.heap.size] w2) (.inl (by simp))) (fun x hx => by rw [List.mem_singleton.1 hx]; exact List.mem_cons_self)).less (fun x hx => List.mem_cons_of_mem _ hx)

set_option maxRecDepth 100000 in
set_option maxHeartbeats 6400000 in
/-- No kind's letter; a kind without parts; no bracket behind the letter. -/
theorem term_short (s : ByteArray) (f : Nat) (w : World) (p : Nat) (_hp : p ≤ s.size) (hs : s.size ≤ 1000000) (hk : kindV (atV s p : Nat) ≤ 4 ∨ atV s (p + 1) ≠ 40) :
    Calls Tryz.prog 97 #[.string s, .int .i64 p] w (NodePost (rt s (f + 1) none p) w) := by
  have HA := hide (fun W (q : Nat) => atr_any W s q (by unfold maxLen; omega))
  have HB := hide (Blk.new w 77 zeroN)
  have HO := hide ((Only.refl [] w).alloc (.cells zeroN 77))
  have HKA := hide (show kindV (atV s p : Nat) ≠ 0 → p < s.size from kind_at)
  have HKA := hide (show kindV (atV s p : Nat) ≠ 0 → p < s.size from kind_at)
  have HK := hide (fun W => kindr_any (atV s p : Nat) W)
  by_cases h0 : kindV (atV s p : Nat) = 0
  · have HR := hide (rt_k0 (f := f) h0)
    rw [h0] at HK
    clear h0 hk
    go_enter Tryz.func97, Tryz.ntmps97
    go_wp2_with (first
      | (go_at_call 123; refine (HA.out _ _).mono ?_; rintro e w1 ⟨rfl, rfl⟩)
      | (go_at_call 122; refine (HK.out _).mono ?_; rintro e w1 ⟨rfl, rfl⟩))
    refine bodyPost_ret (results_cell_two rfl _ _ w.heap.size 77 _ (0, 0) _ rfl HB.out Tryz.underlying77 rfl (by kernel_rfl)) rfl ?_
    exact node_no HR.out HO.out
  have hps := HKA.out h0
  by_cases h4 : kindV (atV s p : Nat) ≤ 4
  · have hrt := rt_leaf (f := f) h0 h4
    have hk1 : kindV (atV s p : Nat) = 1 ∨ kindV (atV s p : Nat) = 2 ∨ kindV (atV s p : Nat) = 3 ∨ kindV (atV s p : Nat) = 4 := by
      have := kind_range (atV s p : Nat)
      omega
    have HLF : Hid (∀ W, Calls Tryz.prog 124 #[.string s, .int .i64 ((p : Int) + 1), .int .i64 (kindV (atV s p : Nat))] W (NodePost (rt s (f + 1) none p) W)) := hide fun W => by
      rw [hrt, show ((p : Int) + 1) = ((p + 1 : Nat) : Int) by omega]
      rcases hk1 with h | h | h | h
      · rw [h]; exact leaf_one W s (p + 1)
      · rw [h]; exact leaf_num W s (p + 1) 2 (.inl rfl) (by omega) hs
      · rw [h]; exact leaf_num W s (p + 1) 3 (.inr rfl) (by omega) hs
      · rw [h]; exact leaf_data W s (p + 1) (by omega) hs
    clear hrt hk
    generalize kindV (atV s p : Nat) = k at *
    generalize rt s (f + 1) none p = R at *
    have e0 : (k == 0) = false := by rw [beq_eq_false_iff_ne]; exact h0
    clear h0 hk1
    cases R with
    | none =>
      unfold NodePost at HLF
      go_enter Tryz.func97, Tryz.ntmps97
      go_wp2_with (first
        | (go_at_call 123; refine (HA.out _ _).mono ?_; rintro e w1 ⟨rfl, rfl⟩)
        | (go_at_call 122; refine (HK.out _).mono ?_; rintro e w1 ⟨rfl, rfl⟩)
        | (go_at_call 124; refine (HLF.out _).mono ?_; rintro e w2 ⟨rfl, ho⟩; have HO2 := hide (HO.out.trans ho); have HB2 := hide (HB.out.only ho (by simp)); have c0 := HB2.out.cell 0; have c1 := HB2.out.cell 1; have c2 := HB2.out.cell 2; have c3 := HB2.out.cell 3; simp at c0 c1 c2 c3; have f0 := HB2.out.frozen; clear ho))
      refine bodyPost_ret (results_cell_two rfl _ _ w.heap.size 77 _ (0, 0) _ rfl (((((HB2.out.set_ 0 _).set_ 1 _).set_ 2 _).set_ 3 _)) Tryz.underlying77 rfl (by kernel_rfl)) rfl ?_
      exact node_no rfl (only_four0 HO2.out (.inr (Nat.le_refl _)))
    | some nq =>
      obtain ⟨⟨kk, n, l, ps⟩, q⟩ := nq
      unfold NodePost at HLF
      simp only at HLF
      go_enter Tryz.func97, Tryz.ntmps97
      go_wp2_with (first
        | (go_at_call 123; refine (HA.out _ _).mono ?_; rintro e w1 ⟨rfl, rfl⟩)
        | (go_at_call 122; refine (HK.out _).mono ?_; rintro e w1 ⟨rfl, rfl⟩)
        | (go_at_call 124; refine (HLF.out _).mono ?_; rintro e w2 ⟨bv, pv, rfl, ho, hb, hpv⟩; obtain ⟨Ab, cb, rfl, _, _⟩ := (hb [] (by simp)).formb; obtain ⟨Ap, cp, rfl, _, _⟩ := (hpv [] (by simp)).form; have HBY := hide hb; have HPV := hide hpv; have HO2 := hide (HO.out.trans ho); have HB2 := hide (HB.out.only ho (by simp)); have c0 := HB2.out.cell 0; have c1 := HB2.out.cell 1; have c2 := HB2.out.cell 2; have c3 := HB2.out.cell 3; simp at c0 c1 c2 c3; have f0 := HB2.out.frozen; clear ho hb hpv))
      refine bodyPost_ret (results_cell_two rfl _ _ w.heap.size 77 _ (0, 0) _ rfl (((((HB2.out.set_ 0 _).set_ 1 _).set_ 2 _).set_ 3 _)) Tryz.underlying77 rfl (by kernel_rfl)) rfl ?_
      exact ⟨_, _, rfl, only_four0 HO2.out (.inr (Nat.le_refl _)), node_keep HBY.out, node_keep HPV.out⟩
  · have h40 : atV s (p + 1) ≠ 40 := hk.resolve_left h4
    have HR := hide (rt_bare (f := f) h0 h4 h40)
    generalize kindV (atV s p : Nat) = k at *
    have e0 : (k == 0) = false := by rw [beq_eq_false_iff_ne]; exact h0
    have h4I : ¬ k ≤ 4 := h4
    have h40I : ((atV s (p + 1) : Nat) : Int) ≠ 40 := by omega
    have HA1 := hide (show ∀ W, Calls Tryz.prog 123 #[.string s, .int .i64 ((p : Int) + 1)] W fun e w' => e = .returned (.int .u8 (atV s (p + 1) : Nat)) ∧ W = w' from fun W => by have h := HA.out W (p + 1); rwa [show ((p + 1 : Nat) : Int) = (p : Int) + 1 by omega] at h)
    generalize atV s (p + 1) = c1 at *
    have HF := hide ((HB.out.alloc (.cells #[.int .i64 k, .int .u64 0, .slice none 0 0, .slice none 0 0] 77)))
    clear h0 hk h4 h40
    go_enter Tryz.func97, Tryz.ntmps97
    go_wp2_with (first
      | (go_at_call 123; (with_reducible refine (HA1.out _).mono ?_); rintro e w1 ⟨rfl, rfl⟩)
      | (go_at_call 123; refine (HA.out _ _).mono ?_; rintro e w1 ⟨rfl, rfl⟩)
      | (go_at_call 122; refine (HK.out _).mono ?_; rintro e w1 ⟨rfl, rfl⟩))
    refine bodyPost_ret (results_cell_two rfl _ _ w.heap.size 77 _ (0, 0) _ rfl HF.out Tryz.underlying77 rfl (by kernel_rfl)) rfl ?_
    exact node_no HR.out (HO.out.alloc _)
end
section
open Go.RowKit Go.Deep

theorem numK_no {k : Int} {l : List UInt8} {u c : Nat} (h : numR l = (u, c)) : numK k l = none ↔ (c ≠ 0 ∨ allowedV k u = false) := by
  unfold numK
  rw [h]
  simp only
  constructor
  · intro hh
    split at hh
    · cases hh
    · rename_i h1
      by_cases hc : c = 0
      · right
        cases ha : allowedV k u with
        | false => rfl
        | true => exact absurd ⟨hc, ha⟩ h1
      · exact .inl hc
  · intro hh
    rw [if_neg]
    rintro ⟨h1, h2⟩
    rcases hh with hh | hh
    · exact hh h1
    · rw [hh] at h2; cases h2
theorem numK_yes {k : Int} {l : List UInt8} {u c n : Nat} (h : numR l = (u, c)) (hn : numK k l = some n) : c = 0 ∧ allowedV k u = true ∧ n = u := by
  unfold numK at hn
  rw [h] at hn
  simp only at hn
  split at hn
  · rename_i h1
    injection hn with hn
    exact ⟨h1.1, h1.2, hn.symm⟩
  · cases hn

theorem own_ne {w : World} {base e size n g t : Nat} {v : Value} {xs : List Value} {cs : Array Value} (h : w.ownsRow base e size v n xs) (hg : Blk w g t cs) (hte : t ≠ e) : some g ≠ v.ownBlock := by
  rcases h.2 with ⟨rfl, _⟩ | ⟨g3, cap, cur, rfl, _, hh, _⟩
  · intro h; cases h
  · intro h
    injection h with h
    subst h
    exact (Blk.ne_ (t' := e) (cs' := cur) hg hh hte) rfl

theorem own_set {w : World} {base e size n g t : Nat} {v : Value} {xs : List Value} {cs : Array Value} (h : w.ownsRow base e size v n xs) (hg : Blk w g t cs) (hte : t ≠ e) (i : Nat) (x : Value) : (w.setCell ⟨g, i, none⟩ x).ownsRow base e size v n xs := by
  have hne := own_ne h hg hte
  obtain ⟨h1, h2⟩ := h
  refine ⟨h1, ?_⟩
  rcases h2 with h2 | ⟨g3, cap, cur, rfl, hb, hh, h3⟩
  · exact .inl h2
  · refine .inr ⟨g3, cap, cur, rfl, hb, ?_, h3⟩
    exact Blk.far (t := e) (cs := cur) (p := ⟨g, i, none⟩) hh (fun e' => hne (show some g = some g3 from congrArg some e'.symm)) x

theorem own_four {w : World} {base e size n g t : Nat} {v : Value} {xs : List Value} {cs : Array Value} {a b c d : Value} (h : w.ownsRow base e size v n xs) (hg : Blk w g t cs) (hte : t ≠ e) :
    ((((w.setCell ⟨g, 0, none⟩ a).setCell ⟨g, 1, none⟩ b).setCell ⟨g, 2, none⟩ c).setCell ⟨g, 3, none⟩ d).ownsRow base e size v n xs :=
  own_set (own_set (own_set (own_set h hg hte 0 a) (hg.set_ 0 a) hte 1 b) ((hg.set_ 0 a).set_ 1 b) hte 2 c) (((hg.set_ 0 a).set_ 1 b).set_ 2 c) hte 3 d
theorem node_parts {r : Option (Nd × Nat)} {k : Int} {n q m c : Nat} {parts : List ByteArray} {A : Option Addr} {w w' : World} {qI : Int} (h : r = some ((k, n, [], parts), q)) (ho : Only [] w w') (hp : w'.ownsRow w.heap.size 9 1 (.slice A m c) m (strs parts)) (_hm : parts.length = m) (hq : qI = (q : Nat)) :
    NodePost r w (.returned (.tuple #[.agg #[.int .i64 k, .int .u64 (n : Nat), .slice none 0 0, .slice A m c], .int .i64 qI])) w' := by
  subst h hq
  exact ⟨_, _, rfl, ho, fun N _ => Rd.nil _ N, fun N hN => (Rd.of_own hp hN).1⟩
end
end Go.Proofs.YtfipdjlalfpbnaaGreatDoor

/-
  What any bytes are as a message, field by field (plain): the words that the reference's Read is told by. No condition.
  Messages as plain data, and how two are compared. No condition.
  What a message is that is right (plain). No condition.
  wire.low: by walking. Condition: at most 2^40 bytes.
  What is printed of a message (plain). No condition.
-/
import Derived.Test.YtfmfnfmhknlpbaaWgQ
import Derived.Test.YtfmfnfmhknlpbaaChecked
import Derived.Test.YtfmfnfmhknlpbaaZA
import Derived.Laws.StructEq
import Derived.Lib.AppendStr
namespace Go.Proofs.Ytfmfnfmhknlpbaa
open Go.RowKit Go.Deep

/-- The fields that are left, from the bytes that are left, into the cells so far. -/
def finF : List Nat → List UInt8 → Array Value → Int × Array Value
  | [], q, cs => if q = [] then (0, cs) else (5, zeroM 0)
  | i :: r, q, cs => if (fieldV i q).1 = 0 then finF r (fieldV i q).2.2 (cs.setIfInBounds i (fieldV i q).2.1) else ((fieldV i q).1, zeroM 0)
theorem finF_eq (is : List Nat) : ∀ (q : List UInt8) (cs : Array Value), (if (fieldsV is q cs).1 = 0 then (if (fieldsV is q cs).2.1 = [] then (0, (fieldsV is q cs).2.2) else (5, zeroM 0)) else ((fieldsV is q cs).1, zeroM 0)) = finF is q cs := by
  induction is with
  | nil => intro q cs; rfl
  | cons i r ih =>
    intro q cs
    unfold finF
    by_cases h : (fieldV i q).1 = 0
    · rw [if_pos h, ← ih]
      have e : fieldsV (i :: r) q cs = fieldsV r (fieldV i q).2.2 (cs.setIfInBounds i (fieldV i q).2.1) := if_pos h
      rw [e]
    · rw [if_neg h]
      have e : fieldsV (i :: r) q cs = ((fieldV i q).1, [], #[]) := if_neg h
      rw [e]
      exact if_neg h
theorem read_fin {l q : List UInt8} {k : Int} (h : headV l = (0, k, q)) : readV l = finF (rowL k) q (zeroM k) := by
  rw [read_kind h rfl, ← finF_eq]

/-- Values laid at places, one after the other. -/
def setL : List Nat → List Value → Array Value → Array Value
  | i :: is, v :: vs, cs => setL is vs (cs.setIfInBounds i v)
  | _, _, cs => cs
theorem setL_nil (is : List Nat) (cs : Array Value) : setL is [] cs = cs := by cases is <;> rfl
theorem setL_snoc (is : List Nat) : ∀ (vs : List Value) (cs : Array Value) (v : Value) (i : Nat), is[vs.length]? = some i → setL is (vs ++ [v]) cs = (setL is vs cs).setIfInBounds i v := by
  induction is with
  | nil => intro vs cs v i h; simp at h
  | cons a r ih =>
    intro vs cs v i h
    cases vs with
    | nil =>
      simp at h
      subst h
      simp only [List.nil_append, setL, setL_nil]
    | cons x vs =>
      simp only [List.length_cons, List.getElem?_cons_succ] at h
      simp only [List.cons_append, setL]
      exact ih vs _ v i h
/-- A number of a field as a cell. -/
def numc (i x : Nat) : Value := if i = 3 then .int .u64 x else .int .u32 x
def numsW (is ns : List Nat) : List Value := List.zipWith numc is ns
theorem numsW_snoc (is : List Nat) : ∀ (ns : List Nat) (x i : Nat), is[ns.length]? = some i → numsW is (ns ++ [x]) = numsW is ns ++ [numc i x] := by
  induction is with
  | nil => intro ns x i h; simp at h
  | cons a r ih =>
    intro ns x i h
    cases ns with
    | nil => simp at h; subst h; simp [numsW]
    | cons y ns =>
      simp only [List.length_cons, List.getElem?_cons_succ] at h
      have := ih ns x i h
      unfold numsW at this ⊢
      simp only [List.cons_append, List.zipWith_cons_cons, this]
theorem numsW_length (is ns : List Nat) (h : ns.length ≤ is.length) : (numsW is ns).length = ns.length := by
  unfold numsW
  rw [List.length_zipWith]; omega

/-- The sizes of the numbers of a kind, and how many texts it has. -/
def shapeV (k : Nat) : List Nat × Nat := if k = 1 then ([4], 5) else if k = 2 then ([4, 4], 4) else if k = 3 then ([4], 2) else ([4, 8], 1)
/-- Where the j-th field of a kind is a number. -/
theorem row_num {k : Nat} (h1 : 1 ≤ k) (h4 : k ≤ 4) {j : Nat} (hj : j < (shapeV k).1.length) :
    ∃ i, (rowL k)[j]? = some i ∧ (rowL k).drop j = i :: (rowL k).drop (j + 1) ∧ ∀ q, fieldV i q = ((numV ((shapeV k).1.getD j 0) q).1, numc i (numV ((shapeV k).1.getD j 0) q).2.1, (numV ((shapeV k).1.getD j 0) q).2.2) := by
  obtain rfl | rfl | rfl | rfl : k = 1 ∨ k = 2 ∨ k = 3 ∨ k = 4 := by omega
  · obtain rfl : j = 0 := by simp [shapeV] at hj; omega
    exact ⟨1, rfl, rfl, fun q => rfl⟩
  · obtain rfl | rfl : j = 0 ∨ j = 1 := by simp [shapeV] at hj; omega
    · exact ⟨1, rfl, rfl, fun q => rfl⟩
    · exact ⟨2, rfl, rfl, fun q => rfl⟩
  · obtain rfl : j = 0 := by simp [shapeV] at hj; omega
    exact ⟨2, rfl, rfl, fun q => rfl⟩
  · obtain rfl | rfl : j = 0 ∨ j = 1 := by simp [shapeV] at hj; omega
    · exact ⟨2, rfl, rfl, fun q => rfl⟩
    · exact ⟨3, rfl, rfl, fun q => rfl⟩
/-- Where it is a text. -/
theorem row_text {k : Nat} (h1 : 1 ≤ k) (h4 : k ≤ 4) {t : Nat} (ht : t < (shapeV k).2) :
    ∃ i, (rowL k)[(shapeV k).1.length + t]? = some i ∧ (rowL k).drop ((shapeV k).1.length + t) = i :: (rowL k).drop ((shapeV k).1.length + (t + 1)) ∧ ∀ q, fieldV i q = ((textV q).1, .string (textV q).2.1, (textV q).2.2) := by
  obtain rfl | rfl | rfl | rfl : k = 1 ∨ k = 2 ∨ k = 3 ∨ k = 4 := by omega
  · obtain rfl | rfl | rfl | rfl | rfl : t = 0 ∨ t = 1 ∨ t = 2 ∨ t = 3 ∨ t = 4 := by simp [shapeV] at ht; omega
    all_goals exact ⟨_, rfl, rfl, fun q => rfl⟩
  · obtain rfl | rfl | rfl | rfl : t = 0 ∨ t = 1 ∨ t = 2 ∨ t = 3 := by simp [shapeV] at ht; omega
    all_goals exact ⟨_, rfl, rfl, fun q => rfl⟩
  · obtain rfl | rfl : t = 0 ∨ t = 1 := by simp [shapeV] at ht; omega
    all_goals exact ⟨_, rfl, rfl, fun q => rfl⟩
  · obtain rfl : t = 0 := by simp [shapeV] at ht; omega
    exact ⟨_, rfl, rfl, fun q => rfl⟩
theorem row_end {k : Nat} (h1 : 1 ≤ k) (h4 : k ≤ 4) : (rowL k).drop ((shapeV k).1.length + (shapeV k).2) = [] := by
  obtain rfl | rfl | rfl | rfl : k = 1 ∨ k = 2 ∨ k = 3 ∨ k = 4 := by omega
  all_goals rfl

/-- How far the reading is. -/
def stageV (k : Nat) (ns : List Nat) (ts : List ByteArray) (q : List UInt8) : Int × Array Value :=
  finF ((rowL k).drop (ns.length + ts.length)) q (setL (rowL k) (numsW (rowL k) ns ++ ts.map .string) (zeroM k))
theorem stage_start {k : Nat} {l q : List UInt8} (h : headV l = (0, (k : Int), q)) : readV l = stageV k [] [] q := by
  rw [read_fin h]
  unfold stageV numsW
  simp [setL_nil]
theorem shape_len {k : Nat} (h1 : 1 ≤ k) (h4 : k ≤ 4) : (shapeV k).1.length + (shapeV k).2 = (rowL k).length := by
  obtain rfl | rfl | rfl | rfl : k = 1 ∨ k = 2 ∨ k = 3 ∨ k = 4 := by omega
  all_goals rfl
/-- A number more, or there is none. -/
theorem stage_num {k : Nat} (h1 : 1 ≤ k) (h4 : k ≤ 4) {ns : List Nat} (hj : ns.length < (shapeV k).1.length) (q : List UInt8) :
    stageV k ns [] q = if q.length < (shapeV k).1.getD ns.length 0 then (4, zeroM 0) else stageV k (ns ++ [lowV (q.take ((shapeV k).1.getD ns.length 0))]) [] (q.drop ((shapeV k).1.getD ns.length 0)) := by
  obtain ⟨i, hi, hd, hf⟩ := row_num h1 h4 hj
  have hlen := shape_len h1 h4
  unfold stageV
  rw [List.length_nil, Nat.add_zero, hd]
  conv => lhs; unfold finF
  rw [hf]
  unfold numV
  by_cases h : q.length < (shapeV k).1.getD ns.length 0
  · simp only [if_pos h]
    rfl
  · simp only [if_neg h, if_true, List.length_append, List.length_singleton, List.length_nil, Nat.add_zero, List.map_nil, List.append_nil]
    rw [numsW_snoc _ _ _ _ hi, setL_snoc (i := i) _ _ _ _ (by rw [numsW_length _ _ (by omega)]; exact hi)]
/-- A text more, or there is none. -/
theorem stage_text {k : Nat} (h1 : 1 ≤ k) (h4 : k ≤ 4) {ns : List Nat} (hn : ns.length = (shapeV k).1.length) {ts : List ByteArray} (ht : ts.length < (shapeV k).2) (q : List UInt8) :
    stageV k ns ts q = if (textV q).1 = 0 then stageV k ns (ts ++ [(textV q).2.1]) (textV q).2.2 else ((textV q).1, zeroM 0) := by
  obtain ⟨i, hi, hd, hf⟩ := row_text h1 h4 ht
  have hlen := shape_len h1 h4
  unfold stageV
  rw [hn, hd]
  conv => lhs; unfold finF
  rw [hf]
  by_cases h : (textV q).1 = 0
  · simp only [if_pos h, List.length_append, List.length_singleton, List.map_append, List.map_cons, List.map_nil]
    rw [← List.append_assoc, setL_snoc (i := i) _ _ _ _ (by rw [List.length_append, numsW_length _ _ (by omega), List.length_map, hn]; exact hi)]
  · simp only [if_neg h]
theorem stage_end {k : Nat} (h1 : 1 ≤ k) (h4 : k ≤ 4) {ns : List Nat} (hn : ns.length = (shapeV k).1.length) {ts : List ByteArray} (ht : ts.length = (shapeV k).2) (q : List UInt8) :
    stageV k ns ts q = if q = [] then (0, setL (rowL k) (numsW (rowL k) ns ++ ts.map .string) (zeroM k)) else (5, zeroM 0) := by
  unfold stageV
  rw [hn, ht, row_end h1 h4]
  rfl
def strc (ts : List ByteArray) : List Value := ts.map .string
theorem strc_snoc (ts : List ByteArray) (s : ByteArray) : strc ts ++ [.string s] = strc (ts ++ [s]) := by simp [strc]
end Go.Proofs.Ytfmfnfmhknlpbaa

namespace Go.Proofs.Ytfmfnfmhknlpbaa
open Go.RowKit Go.Deep

/-- A message. -/
structure Mg where
  k : Int
  s : Nat
  r : Nat
  c : Nat
  x4 : ByteArray
  x5 : ByteArray
  x6 : ByteArray
  x7 : ByteArray
  x8 : ByteArray
  x9 : ByteArray
  x10 : ByteArray
  x11 : ByteArray
  x12 : ByteArray
/-- Its cells. -/
def Mg.cells (m : Mg) : Array Value := #[.int .i64 m.k, .int .u32 m.s, .int .u32 m.r, .int .u64 m.c, .string m.x4, .string m.x5, .string m.x6, .string m.x7, .string m.x8, .string m.x9, .string m.x10, .string m.x11, .string m.x12]
def eqM (m n : Mg) : Bool := m.k == n.k && m.s == n.s && m.r == n.r && m.c == n.c && m.x4.toList == n.x4.toList && m.x5.toList == n.x5.toList && m.x6.toList == n.x6.toList && m.x7.toList == n.x7.toList && m.x8.toList == n.x8.toList && m.x9.toList == n.x9.toList && m.x10.toList == n.x10.toList && m.x11.toList == n.x11.toList && m.x12.toList == n.x12.toList
theorem toList_inj {a b : ByteArray} (h : a.toList = b.toList) : a = b := by
  rw [ByteArray.toList_eq, ByteArray.toList_eq] at h
  obtain ⟨⟨x⟩⟩ := a
  obtain ⟨⟨y⟩⟩ := b
  exact congrArg (fun z => (⟨⟨z⟩⟩ : ByteArray)) h
theorem eqM_iff (m n : Mg) : eqM m n = true ↔ m = n := by
  constructor
  · intro h
    obtain ⟨k, s, r, c, x4, x5, x6, x7, x8, x9, x10, x11, x12⟩ := m
    obtain ⟨k', s', r', c', y4, y5, y6, y7, y8, y9, y10, y11, y12⟩ := n
    simp only [eqM, Bool.and_eq_true, beq_iff_eq] at h
    obtain ⟨⟨⟨⟨⟨⟨⟨⟨⟨⟨⟨⟨h0, h1⟩, h2⟩, h3⟩, h4⟩, h5⟩, h6⟩, h7⟩, h8⟩, h9⟩, h10⟩, h11⟩, h12⟩ := h
    rw [h0, h1, h2, h3, toList_inj h4, toList_inj h5, toList_inj h6, toList_inj h7, toList_inj h8, toList_inj h9, toList_inj h10, toList_inj h11, toList_inj h12]
  · rintro rfl
    simp [eqM]
theorem natInt_beq (a b : Nat) : ((a : Int) == (b : Int)) = (a == b) := by
  rw [Bool.eq_iff_iff]
  simp only [beq_iff_eq]
  omega
set_option maxRecDepth 100000 in
set_option maxHeartbeats 3200000 in
theorem msg_fields : Try.prog.underlying 27 = some (.struct (Try.prog.fieldsOf 27)) := by kernel_rfl
set_option maxRecDepth 100000 in
set_option maxHeartbeats 3200000 in
theorem msg_eql (m n : Mg) (w : World) : (binOp .eql 27 (.agg m.cells) (.agg n.cells)).run Try.prog w = .ok (.bool (eqM m n)) w := by
  rw [run_eql_struct, run_equalIn_agg w 9999 _ _ _ msg_fields (by kernel_rfl)]
  obtain ⟨k, s, r, c, x4, x5, x6, x7, x8, x9, x10, x11, x12⟩ := m
  obtain ⟨k', s', r', c', y4, y5, y6, y7, y8, y9, y10, y11, y12⟩ := n
  simp [Mg.cells, eqM, Program.fieldsOf, Try.underlying27, Op.eqFields, go_sem]
  by_cases h : k = k'
  case neg =>
    rw [if_neg h]
    have e : (k == k') = false := by rw [beq_eq_false_iff_ne]; exact h
    simp only [e, Bool.false_and, Bool.and_false, Bool.not_false]
  rw [if_pos h]
  have e : (k == k') = true := by rw [beq_iff_eq]; exact h
  simp only [e, Bool.true_and]
  clear h e
  by_cases h : (s : Int) = s'
  case neg =>
    rw [if_neg h]
    have e : (s == s') = false := by rw [beq_eq_false_iff_ne]; omega
    simp only [e, Bool.false_and, Bool.and_false, Bool.not_false]
  rw [if_pos h]
  have e : (s == s') = true := by rw [beq_iff_eq]; omega
  simp only [e, Bool.true_and]
  clear h e
  by_cases h : (r : Int) = r'
  case neg =>
    rw [if_neg h]
    have e : (r == r') = false := by rw [beq_eq_false_iff_ne]; omega
    simp only [e, Bool.false_and, Bool.and_false, Bool.not_false]
  rw [if_pos h]
  have e : (r == r') = true := by rw [beq_iff_eq]; omega
  simp only [e, Bool.true_and]
  clear h e
  by_cases h : (c : Int) = c'
  case neg =>
    rw [if_neg h]
    have e : (c == c') = false := by rw [beq_eq_false_iff_ne]; omega
    simp only [e, Bool.false_and, Bool.and_false, Bool.not_false]
  rw [if_pos h]
  have e : (c == c') = true := by rw [beq_iff_eq]; omega
  simp only [e, Bool.true_and]
  clear h e
  by_cases h : x4.toList = y4.toList
  case neg =>
    rw [if_neg h]
    have e : (x4.toList == y4.toList) = false := by rw [beq_eq_false_iff_ne]; exact h
    simp only [e, Bool.false_and, Bool.and_false, Bool.not_false]
  rw [if_pos h]
  have e : (x4.toList == y4.toList) = true := by rw [beq_iff_eq]; exact h
  simp only [e, Bool.true_and]
  clear h e
  by_cases h : x5.toList = y5.toList
  case neg =>
    rw [if_neg h]
    have e : (x5.toList == y5.toList) = false := by rw [beq_eq_false_iff_ne]; exact h
    simp only [e, Bool.false_and, Bool.and_false, Bool.not_false]
  rw [if_pos h]
  have e : (x5.toList == y5.toList) = true := by rw [beq_iff_eq]; exact h
  simp only [e, Bool.true_and]
  clear h e
  by_cases h : x6.toList = y6.toList
  case neg =>
    rw [if_neg h]
    have e : (x6.toList == y6.toList) = false := by rw [beq_eq_false_iff_ne]; exact h
    simp only [e, Bool.false_and, Bool.and_false, Bool.not_false]
  rw [if_pos h]
  have e : (x6.toList == y6.toList) = true := by rw [beq_iff_eq]; exact h
  simp only [e, Bool.true_and]
  clear h e
  by_cases h : x7.toList = y7.toList
  case neg =>
    rw [if_neg h]
    have e : (x7.toList == y7.toList) = false := by rw [beq_eq_false_iff_ne]; exact h
    simp only [e, Bool.false_and, Bool.and_false, Bool.not_false]
  rw [if_pos h]
  have e : (x7.toList == y7.toList) = true := by rw [beq_iff_eq]; exact h
  simp only [e, Bool.true_and]
  clear h e
  by_cases h : x8.toList = y8.toList
  case neg =>
    rw [if_neg h]
    have e : (x8.toList == y8.toList) = false := by rw [beq_eq_false_iff_ne]; exact h
    simp only [e, Bool.false_and, Bool.and_false, Bool.not_false]
  rw [if_pos h]
  have e : (x8.toList == y8.toList) = true := by rw [beq_iff_eq]; exact h
  simp only [e, Bool.true_and]
  clear h e
  by_cases h : x9.toList = y9.toList
  case neg =>
    rw [if_neg h]
    have e : (x9.toList == y9.toList) = false := by rw [beq_eq_false_iff_ne]; exact h
    simp only [e, Bool.false_and, Bool.and_false, Bool.not_false]
  rw [if_pos h]
  have e : (x9.toList == y9.toList) = true := by rw [beq_iff_eq]; exact h
  simp only [e, Bool.true_and]
  clear h e
  by_cases h : x10.toList = y10.toList
  case neg =>
    rw [if_neg h]
    have e : (x10.toList == y10.toList) = false := by rw [beq_eq_false_iff_ne]; exact h
    simp only [e, Bool.false_and, Bool.and_false, Bool.not_false]
  rw [if_pos h]
  have e : (x10.toList == y10.toList) = true := by rw [beq_iff_eq]; exact h
  simp only [e, Bool.true_and]
  clear h e
  by_cases h : x11.toList = y11.toList
  case neg =>
    rw [if_neg h]
    have e : (x11.toList == y11.toList) = false := by rw [beq_eq_false_iff_ne]; exact h
    simp only [e, Bool.false_and, Bool.and_false, Bool.not_false]
  rw [if_pos h]
  have e : (x11.toList == y11.toList) = true := by rw [beq_iff_eq]; exact h
  simp only [e, Bool.true_and]
  clear h e
  by_cases h : x12.toList = y12.toList
  case neg =>
    rw [if_neg h]
    have e : (x12.toList == y12.toList) = false := by rw [beq_eq_false_iff_ne]; exact h
    simp only [e, Bool.false_and, Bool.and_false, Bool.not_false]
  rw [if_pos h]
  have e : (x12.toList == y12.toList) = true := by rw [beq_iff_eq]; exact h
  simp only [e, Bool.true_and]
theorem msg_neq (m n : Mg) (w : World) : (binOp .neq 27 (.agg m.cells) (.agg n.cells)).run Try.prog w = .ok (.bool (!eqM m n)) w := by
  have h := msg_eql m n w
  rw [run_eql_struct] at h
  rw [run_neq_struct]
  generalize (Op.equalIn 10000 27 (.agg m.cells) (.agg n.cells)).run Try.prog w = R at *
  cases R with
  | ok b w1 =>
    simp only [Result.andThen_ok] at h ⊢
    injection h with h1 h2
    injection h1 with h1
    rw [h1, h2]
  | halt x w1 => simp [Result.andThen] at h
end Go.Proofs.Ytfmfnfmhknlpbaa

namespace Go.Proofs.Ytfmfnfmhknlpbaa
open Go.RowKit Go.Deep

def noT : ByteArray := ⟨#[]⟩
/-- The texts of a message's row. -/
def textsM (m : Mg) : List ByteArray := if m.k = 1 then [m.x4, m.x5, m.x6, m.x11, m.x12] else if m.k = 2 then [m.x4, m.x7, m.x11, m.x12] else if m.k = 3 then [m.x8, m.x9] else [m.x10]
/-- The message with the fields of its row alone. -/
def onlyM (m : Mg) : Mg :=
  if m.k = 1 then ⟨1, m.s, 0, 0, m.x4, m.x5, m.x6, noT, noT, noT, noT, m.x11, m.x12⟩
  else if m.k = 2 then ⟨2, m.s, m.r, 0, m.x4, noT, noT, m.x7, noT, noT, noT, m.x11, m.x12⟩
  else if m.k = 3 then ⟨3, 0, m.r, 0, noT, noT, noT, noT, m.x8, m.x9, noT, noT, noT⟩
  else ⟨4, 0, m.r, m.c, noT, noT, noT, noT, noT, noT, m.x10, noT, noT⟩
/-- Is it a message? -/
def rightM (m : Mg) : Bool := decide (1 ≤ m.k ∧ m.k ≤ 4) && ((textsM m).all fitW && eqM (onlyM m) m)
/-- What fits the machine. -/
structure Mg.Fine (m : Mg) : Prop where
  s : m.s < 4294967296
  r : m.r < 4294967296
  c : m.c < 18446744073709551616
  x4 : m.x4.size ≤ maxLen
  x5 : m.x5.size ≤ maxLen
  x6 : m.x6.size ≤ maxLen
  x7 : m.x7.size ≤ maxLen
  x8 : m.x8.size ≤ maxLen
  x9 : m.x9.size ≤ maxLen
  x10 : m.x10.size ≤ maxLen
  x11 : m.x11.size ≤ maxLen
  x12 : m.x12.size ≤ maxLen

/-- What proper hands back: the row, where the message is right. -/
def PropPost (n : Nat) (C : Nat → Nat → List Value) (b : Bool) (w : World) (e : Ending) (w' : World) : Prop :=
  ∃ fv, e = .returned (.tuple #[fv, .bool b]) ∧ Only [] w w' ∧ (b = true → ∃ g b1 b2, fv = .slice (some ⟨g, 0, none⟩) n n ∧ w.heap.size ≤ g ∧ w.heap.size ≤ b1 ∧ w.heap.size ≤ b2 ∧ Blk w' g 63 (C b1 b2).toArray ∧
    Blk w' b1 91 #[fnV 47] ∧ Blk w' b2 91 #[fnV 48])
theorem prop_no {n : Nat} {C : Nat → Nat → List Value} {b : Bool} {fv : Value} {w w' : World} (h : b = false) (ho : Only [] w w') : PropPost n C b w (.returned (.tuple #[fv, .bool false])) w' := by
  subst h
  exact ⟨fv, rfl, ho, fun h => by cases h⟩
theorem prop_is {n : Nat} {C : Nat → Nat → List Value} {b b' : Bool} {w w' : World} {g b1 b2 : Nat} (h : b = b') (h1 : w.heap.size ≤ g) (h2 : w.heap.size ≤ b1) (h3 : w.heap.size ≤ b2) (h4 : Blk w' g 63 (C b1 b2).toArray)
    (h5 : Blk w' b1 91 #[fnV 47]) (h6 : Blk w' b2 91 #[fnV 48]) (h7 : Only [] w w') : PropPost n C b w (.returned (.tuple #[.slice (some ⟨g, 0, none⟩) n n, .bool b'])) w' := by
  subst h
  exact ⟨_, rfl, h7, fun _ => ⟨g, b1, b2, rfl, h1, h2, h3, h4, h5, h6⟩⟩
end Go.Proofs.Ytfmfnfmhknlpbaa

namespace Go.Proofs.Ytfmfnfmhknlpbaa
open Go.RowKit Go.Deep

/-- A number's bytes, the lowest first. -/
def lowB : Nat → Nat → List UInt8
  | 0, _ => []
  | n + 1, u => UInt8.ofNat (u % 256) :: lowB n (u / 256)
theorem lowB_length (n u : Nat) : (lowB n u).length = n := by
  induction n generalizing u with
  | zero => rfl
  | succ n ih => rw [lowB, List.length_cons, ih]
theorem lowB_snoc (n u : Nat) : lowB (n + 1) u = lowB n u ++ [UInt8.ofNat (u / 256 ^ n % 256)] := by
  induction n generalizing u with
  | zero => simp [lowB]
  | succ n ih =>
    rw [lowB, ih (u / 256), lowB, List.cons_append]
    congr 3
    rw [Nat.div_div_eq_div_mul, Nat.pow_succ, Nat.mul_comm]
theorem lowV_lowB (n u : Nat) (h : u < 256 ^ n) : lowV (lowB n u) = u := by
  induction n generalizing u with
  | zero => simp at h; subst h; rfl
  | succ n ih =>
    rw [lowB, lowV, ih (u / 256) (by rw [Nat.pow_succ] at h; omega)]
    simp only [UInt8.toNat_ofNat']
    omega
theorem lowB_lowV (l : List UInt8) : lowB l.length (lowV l) = l := by
  induction l with
  | nil => rfl
  | cons b r ih =>
    have hb := b.toNat_lt
    rw [List.length_cons, lowB, lowV, show (b.toNat + 256 * lowV r) / 256 = lowV r by omega, ih, show (b.toNat + 256 * lowV r) % 256 = b.toNat by omega]
    congr 1
    simp
theorem wp_scope_falls {P : Program} {a : Act} {w : World} {Q : Exit → Act → World → Prop} {c rest : Code} (l : Nat) (J : Act → World → Prop) (μ : Act → World → Nat) (hf : findLabel c l = some (Code.skip.seq rest))
    (pass : ∀ a w, J a w → rest.wp P (Exit.jump l (fun a' w' => J a' w' ∧ μ a' w' < μ a w) Q) a w)
    (first : (∀ a w, J a w → rest.wp P (Exit.jump l J Q) a w) → c.wp P (Exit.jump l J Q) a w) : (Code.scope c).wp P Q a w :=
  wp_scope_jumps l J μ hf (first fun a w hJ => wp_mono (pass a w hJ) (by
    intro e a' w' h
    cases e with
    | goto l' => exact ⟨h.1, h.2.1⟩
    | normal => exact h
    | exit id => exact h
    | ret => exact h
    | panic ch => exact h
    | outgrown => exact h)) (by
    intro a w hJ
    apply wp_seq_k
    intro K hK
    apply wp_skip
    exact hK _ _ (pass a w hJ))

theorem byte_at (u i : Nat) (z : UInt8) (h : z = UInt8.ofNat (u / 256 ^ i % 256)) : (u : Int) / 2 ^ (8 * i) % 256 = (z.toNat : Int) := by
  have hp : ((2 : Int) ^ (8 * i)) = ((256 ^ i : Nat) : Int) := by
    have e8 : (2 : Int) ^ 8 = ((256 : Nat) : Int) := by decide
    rw [Int.pow_mul, e8, Int.natCast_pow]
  rw [h, hp, UInt8.toNat_ofNat', Nat.mod_eq_of_lt (by omega : u / 256 ^ i % 256 < 2 ^ 8)]
  omega
theorem ints_append (k : IntKind) (a b : List Int) : ints k (a ++ b) = ints k a ++ ints k b := by simp [ints]
theorem below_refl_ (B : Nat) (w : World) : Below B w w := ⟨rfl, rfl, rfl, Nat.le_refl _, fun _ _ => rfl⟩
theorem below_alloc_ {B : Nat} {w w' : World} (h : Below B w w') (hB : B ≤ w.heap.size) (o : Obj) : Below B w (w'.alloc o) :=
  ⟨h.os, h.tape, h.output, Nat.le_trans h.size (by simp), fun i hi => (Below.heap_alloc w' o i (by have := h.size; omega)).trans (h.block i hi)⟩
theorem below_grown_ {B : Nat} {w w' w2 : World} (h : Below B w w') {row : Option Nat} (hg : w'.grownBy w2 row) (hr : ∀ k, row = some k → B ≤ k) (hB : B ≤ w'.heap.size) : Below B w w2 :=
  ⟨hg.os.trans h.os, hg.tape.trans h.tape, hg.output.trans h.output, Nat.le_trans h.size hg.size, fun i hi => (hg.block i (by omega) (fun e => by have := hr i e.symm; omega)).trans (h.block i hi)⟩

def LowJ (w : World) (base u n k : Nat) (xs : List UInt8) (a' : Act) (w' : World) : Prop :=
  ∃ (i : Nat) (v u3 u4 u5 u6 u8 u9 u10 u11 u12 u13 u14 u15 u16 u17 u18 u19 u20 u21 : Value), a' = ⟨#[v, .int .u64 u, .int .i64 n, u3, u4, u5, u6, .int .i64 i, u8, u9, u10, u11, u12, u13, u14, u15, u16, u17, u18, u19, u20, u21], []⟩ ∧ i ≤ n ∧
    w'.ownsRow base 5 1 v (k + i) (ints .u8 (byts (xs ++ lowB i u))) ∧ Below base w w'
set_option maxRecDepth 100000 in
set_option maxHeartbeats 6400000 in
theorem low_any (w : World) (base u n k : Nat) (v : Value) (xs : List UInt8) (hn : n ≤ 8) (hk : k ≤ 1099511627776) (hu : u < 18446744073709551616) (hb : base ≤ w.heap.size) (hown : w.ownsRow base 5 1 v k (ints .u8 (byts xs))) :
    Calls Try.prog 34 #[v, .int .u64 u, .int .i64 n] w fun e w' => ∃ v', e = .returned v' ∧ w'.ownsRow base 5 1 v' (k + n) (ints .u8 (byts (xs ++ lowB n u))) ∧ Below base w w' := by
  obtain ⟨i0, hi, hz0, hz1, hz2⟩ := info_parts (show (Try.prog.info? 5).map (fun i => (i.zero, i.size, i.bytes)) = some (some (.int .u8 0), 1, 1) by kernel_rfl)
  have HOW := hide hown
  have HB := hide hb
  clear hown hb
  go_enter Try.func34, Try.ntmps34
  go_wp2_with fail
  refine wp_scope_falls 0 (LowJ w base u n k xs) (fun a' _ => n - (intOf (a'.tmps.getD 7 undef)).toNat) rfl ?_ ?_
  · rintro a' w' ⟨i, v', u3, u4, u5, u6, u8, u9, u10, u11, u12, u13, u14, u15, u16, u17, u18, u19, u20, u21, rfl, hin, hown, hbel⟩
    by_cases hie : i = n
    · subst hie
      have HP := hide (show ∃ v2, Ending.returned v' = Ending.returned v2 ∧ w'.ownsRow base 5 1 v2 (k + i) (ints .u8 (byts (xs ++ lowB i u))) ∧ Below base w w' from ⟨v', rfl, hown, hbel⟩)
      clear hown hbel
      go_wp2_with fail
      simp only [Exit.jump]
      go_ret
      exact HP.out
    · have hne : ((i : Int) == n) = false := by rw [beq_eq_false_iff_ne]; omega
      obtain ⟨A, c, rfl, _, _⟩ := own_form hown
      obtain ⟨z, hz⟩ : ∃ z : UInt8, z = UInt8.ofNat (u / 256 ^ i % 256) := ⟨_, rfl⟩
      have HZ := hide hz
      have HZI := hide (byte_at u i z hz)
      have HSN := hide (lowB_snoc i u)
      rw [← hz] at HSN
      clear hz
      have HRN := hide (reads_one w' 5 (.int .u8 ((u : Int) / 2 ^ (8 * i) % 256)) (w'.heap.size + 1) (Nat.lt_succ_self _))
      have HOW2 := hide (World.ownsRow.alloc hown (.cells #[.int .u8 ((u : Int) / 2 ^ (8 * i) % 256)] 5))
      have HBL := hide (below_alloc_ hbel (by have := HB.out; omega) (.cells #[.int .u8 ((u : Int) / 2 ^ (8 * i) % 256)] 5))
      have HSZ := hide hbel.size
      clear hown hbel
      go_wp2_with (at_builtin; (refine wpList_append_any _ rfl (.tmp 12) (.tmp 18) 22 rfl base 5 i0 (.int .u8 0) 1 1 Try.underlying22 hi hz0 hz1 hz2 rfl (by decide) _ (k + i) _ rfl HOW2.out _ _ 1 1 [.int .u8 ((u : Int) / 2 ^ (8 * i) % 256)] rfl HRN.out (by simp [Value.oneCell']) (by unfold maxLen; omega) (by omega) (by have := HSZ.out; have := HB.out; simp; omega) ?_; intro v1 w3 hown1 hg1 _; have HOW3 := hide (show w3.ownsRow base 5 1 v1 (k + (i + 1)) (ints .u8 (byts (xs ++ lowB (i + 1) u))) from (by rw [HSN.out, ← List.append_assoc, byts_append, ints_append, show ints .u8 (byts [z]) = [.int .u8 ((u : Int) / 2 ^ (8 * i) % 256)] from (by rw [HZI.out]; rfl)]; exact hown1)); have HB3 := hide (below_grown_ HBL.out hg1 (fun jj hjj => own_block_ge HOW2.out hjj) (by have := HSZ.out; have := HB.out; simp; omega)); clear hown1 hg1))
      go_step3
      refine ⟨rfl, ⟨i + 1, _, _, _, _, _, _, _, _, _, _, _, _, _, _, _, _, _, _, _, rfl, by omega, HOW3.out, HB3.out⟩, ?_⟩
      simp [intOf]; omega
  · intro hfall
    have HF := hide hfall
    clear hfall
    go_wp2_with fail
    go_step3
    rename_i hK
    refine hK _ _ ?_
    exact HF.out _ _ ⟨0, _, _, _, _, _, _, _, _, _, _, _, _, _, _, _, _, _, _, _, rfl, Nat.zero_le _, by rw [lowB, List.append_nil]; exact HOW.out, below_refl_ _ _⟩
end Go.Proofs.Ytfmfnfmhknlpbaa

namespace Go.Proofs.Ytfmfnfmhknlpbaa
open Go.RowKit Go.Deep

/-- A text behind some bytes. -/
def txtA (l : List UInt8) (x : ByteArray) : List UInt8 := (l ++ lowB 2 x.size) ++ x.data.toList
/-- A message's bytes. -/
def printM (m : Mg) : List UInt8 :=
  if m.k = 1 then txtA (txtA (txtA (txtA (txtA ([1, 0, 0, 0] ++ lowB 4 m.s) m.x4) m.x5) m.x6) m.x11) m.x12
  else if m.k = 2 then txtA (txtA (txtA (txtA (([2, 0, 0, 0] ++ lowB 4 m.s) ++ lowB 4 m.r) m.x4) m.x7) m.x11) m.x12
  else if m.k = 3 then txtA (txtA ([3, 0, 0, 0] ++ lowB 4 m.r) m.x8) m.x9
  else txtA (([4, 0, 0, 0] ++ lowB 4 m.r) ++ lowB 8 m.c) m.x10
theorem fit_size {x : ByteArray} (h : fitW x = true) : x.size ≤ 65535 := by
  unfold fitW at h
  rw [Bool.and_eq_true] at h
  exact of_decide_eq_true h.1
theorem str_cells (s : ByteArray) : Lib.strCells s = ints .u8 (byts s.data.toList) := by simp [Lib.strCells, ints, byts]
theorem only_below {S : List Nat} {B : Nat} {w u u' : World} (h : Only S w u) (hb : Below B u u') (hB : w.heap.size ≤ B) : Only S w u' :=
  ⟨hb.os.trans h.os, hb.tape.trans h.tape, hb.output.trans h.output, Nat.le_trans h.size hb.size, fun i hi hn => (hb.block i (by omega)).trans (h.block i hi hn)⟩
theorem below_row {B : Nat} {w w2 : World} {row : Option Nat} (hg : w.grownBy w2 row) (hr : ∀ k, row = some k → B ≤ k) (hB : B ≤ w.heap.size) : Below B w w2 := below_grown_ (below_refl_ B w) hg hr hB
/-- What Print hands back. -/
def PrintPost (m : Mg) (w : World) (e : Ending) (w' : World) : Prop :=
  Only [] w w' ∧ if rightM m = true then ∃ v, e = .returned (.tuple #[v, .int .i64 0]) ∧ Rd w' [] v (ints .u8 (byts (printM m))) else e = .returned (.tuple #[.slice none 0 0, .int .i64 3])
theorem print_no {m : Mg} {w w' : World} (h : rightM m = false) (ho : Only [] w w') : PrintPost m w (.returned (.tuple #[.slice none 0 0, .int .i64 3])) w' := ⟨ho, by rw [if_neg (by rw [h]; decide)]⟩
theorem print_yes {m : Mg} {w w' : World} {v : Value} {l : List UInt8} {B n : Nat} (h : rightM m = true) (hl : printM m = l) (ho : Only [] w w') (hown : w'.ownsRow B 5 1 v n (ints .u8 (byts l))) : PrintPost m w (.returned (.tuple #[v, .int .i64 0])) w' :=
  ⟨ho, by rw [if_pos h, hl]; exact ⟨v, rfl, (Rd.of_own (N := []) hown (by simp)).1⟩⟩
/-- What Terms hands back. -/
def TermsPost (m : Mg) (w : World) (e : Ending) (w' : World) : Prop :=
  Only [] w w' ∧ if rightM m = true then ∃ v, e = .returned v ∧ Rd w' [] v (strc (textsM m)) else e = .returned (.slice none 0 0)
theorem terms_no {m : Mg} {w w' : World} (h : rightM m = false) (ho : Only [] w w') : TermsPost m w (.returned (.slice none 0 0)) w' := ⟨ho, by rw [if_neg (by rw [h]; decide)]⟩
theorem terms_yes {m : Mg} {w w' : World} {v : Value} {l : List ByteArray} {B n : Nat} (h : rightM m = true) (hl : textsM m = l) (ho : Only [] w w') (hown : w'.ownsRow B 9 1 v n (strc l)) : TermsPost m w (.returned v) w' :=
  ⟨ho, by rw [if_pos h, hl]; exact ⟨v, rfl, (Rd.of_own (N := []) hown (by simp)).1⟩⟩
end Go.Proofs.Ytfmfnfmhknlpbaa

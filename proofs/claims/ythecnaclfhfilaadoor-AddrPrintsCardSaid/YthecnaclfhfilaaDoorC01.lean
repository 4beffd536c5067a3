/-
  Walks and plain words (texts LaidA, Rfn, Rfo, Rfp). No condition beyond those that each theorem states.
-/
import Derived.Test.YthecnaclfhfilaaDoorRows
import Derived.Lib.LaidTab
import Derived.Deep.DeepLaidRun
import Derived.Stop.LaidErr
import Derived.LaidMore
import GoSem.PinnedTables
import Derived.Test.YthecnaclfhfilaaDoorA14
namespace Go.Proofs.YthecnaclfhfilaaDoor
section
open Go.RowKit Go.ChangeShapes Go.WideShapes Go.ChangeAt

theorem own_all : ownKnob Tryd.prog.godebug = none := by kernel_rfl
theorem laidOut_all : laidOutB Tryd.prog = true := by kernel_rfl
abbrev laidAll : List (String × DataW Unit) := [("math/bits.deBruijn32tab", Rows.laid_math_bits_deBruijn32tab), ("math/bits.deBruijn64tab", Rows.laid_math_bits_deBruijn64tab), ("internal/strconv.uint64pow10", Rows.laid_internal_strconv_uint64pow10), ("unicode/utf8.acceptRanges", Rows.laid_unicode_utf8_acceptRanges), ("unicode/utf8.first", Rows.laid_unicode_utf8_first)]

theorem tab_of_laid {W : World} (h : laidMetH Tryd.prog laidAll W) : Tab W := by
  rw [MakeChecks.laidMetH_plain _ _ _ (by kernel_rfl)] at h
  exact Lib.tabIs_of_head (g := 3) (t := 99) (e := 50) (n := 20) (rest := _) (by kernel_rfl) (by kernel_rfl) Tryd.underlying99 Tryd.underlying50 (by kernel_rfl) (by kernel_rfl) (laidMet.tail (laidMet.tail h))

/-- The door's own world, with the pinned table put in. -/
def putTab (w : World) (g : Nat) (cs : Array Value) : World := match w.heap[g]? with
  | some (.cells _ t fr) => { w with heap := w.heap.setIfInBounds g (.cells cs t fr) }
  | _ => w
noncomputable def doorA (os : Os) : World := putTab (World.doorLaid Tryd.prog 400 os) 1 (Go.Pinned.utf8FirstZ.map fun n : Nat => Value.int .u8 (n : Int)).toArray
theorem doorA_os (os : Os) : (doorA os).os = os := by
  unfold doorA putTab
  split <;> rfl
theorem door_met (os : Os) (args : Array Value) : laidMetH Tryd.prog laidAll ((doorA os).forCall (fun _ _ => 0) ⟨#[], args, []⟩).memory := by
  rw [MakeChecks.laidMetH_plain _ _ _ (by kernel_rfl)]
  exact laidMet_of_run3 8 (by kernel_rfl) (by kernel_rfl) (by kernel_rfl)
end
section
open Go.RowKit

def joinL (c : UInt8) : List (List UInt8) → List UInt8
  | [] => []
  | [a] => a
  | a :: b :: r => a ++ c :: joinL c (b :: r)
theorem join_cons (c : UInt8) (a : List UInt8) {r : List (List UInt8)} (h : r ≠ []) : joinL c (a :: r) = a ++ c :: joinL c r := by
  cases r with
  | nil => exact absurd rfl h
  | cons b r => rfl
theorem join_snoc (c : UInt8) (p : List UInt8) : ∀ {ps : List (List UInt8)}, ps ≠ [] → joinL c (ps ++ [p]) = joinL c ps ++ c :: p
  | [], h => absurd rfl h
  | [a], _ => rfl
  | a :: b :: r, _ => by
    rw [List.cons_append, join_cons c a (by simp), join_cons c a (r := b :: r) (by simp), join_snoc c p (ps := b :: r) (by simp)]
    simp
theorem join_split (c : UInt8) : ∀ l : List UInt8, joinL c (splitL c l) = l
  | [] => rfl
  | b :: l => by
    have ih := join_split c l
    rw [splitL]
    split
    · rename_i hb
      rw [join_cons c _ (split_ne c l), ih, hb]; rfl
    · cases hs : splitL c l with
      | nil => exact absurd hs (split_ne c l)
      | cons p r =>
        rw [hs] at ih
        simp only
        cases r with
        | nil => rw [← ih]; rfl
        | cons q r => rw [join_cons c _ (by simp)]; rw [join_cons c _ (by simp)] at ih; rw [← ih]; rfl
theorem mem_join {c b : UInt8} : ∀ {ps : List (List UInt8)}, b ∈ joinL c ps → b = c ∨ ∃ p ∈ ps, b ∈ p
  | [], h => by cases h
  | [a], h => .inr ⟨a, by simp, h⟩
  | a :: d :: r, h => by
    rw [join_cons c a (by simp)] at h
    rcases List.mem_append.1 h with h | h
    · exact .inr ⟨a, by simp, h⟩
    · rcases List.mem_cons.1 h with h | h
      · exact .inl h
      · rcases mem_join h with h | ⟨p, h1, h2⟩
        · exact .inl h
        · exact .inr ⟨p, List.mem_cons_of_mem _ h1, h2⟩
theorem splitL_sep {c : UInt8} {r : List UInt8} : ∀ a : List UInt8, (∀ b ∈ a, ¬ b = c) → splitL c (a ++ c :: r) = a :: splitL c r
  | [], _ => by rw [List.nil_append, splitL, if_pos rfl]
  | b :: a, h => by rw [List.cons_append, split_cons (h b List.mem_cons_self), splitL_sep a (fun x hx => h x (List.mem_cons_of_mem _ hx))]
theorem splitL_one {c : UInt8} : ∀ a : List UInt8, (∀ b ∈ a, ¬ b = c) → splitL c a = [a]
  | [], _ => rfl
  | b :: a, h => by rw [split_cons (h b List.mem_cons_self), splitL_one a (fun x hx => h x (List.mem_cons_of_mem _ hx))]
theorem splitL_join {c : UInt8} : ∀ {ps : List (List UInt8)}, ps ≠ [] → (∀ p ∈ ps, ∀ b ∈ p, ¬ b = c) → splitL c (joinL c ps) = ps
  | [], h, _ => absurd rfl h
  | [a], _, h => splitL_one a (h a (by simp))
  | a :: d :: r, _, h => by
    rw [join_cons c a (by simp), splitL_sep a (h a (by simp)), splitL_join (by simp) (fun p hp => h p (List.mem_cons_of_mem _ hp))]
theorem splitQ_join {c : UInt8} (hc : sepQ c = true) : ∀ {ps : List (List UInt8)}, ps ≠ [] → (∀ p ∈ ps, ∀ b ∈ p, sepQ b = false) → splitQ (joinL c ps) = ps
  | [], h, _ => absurd rfl h
  | [a], _, h => splitQ_one a (h a (by simp))
  | a :: d :: r, _, h => by
    rw [join_cons c a (by simp), splitQ_sep hc a (h a (by simp)), splitQ_join hc (by simp) (fun p hp => h p (List.mem_cons_of_mem _ hp))]
/-- The parts of a text with dots, and of one with colons. -/
def dotsP (l : List UInt8) (k : Nat) : List (List UInt8) := (List.range k).map fun i => Lib.decDigits (l.getD i 0).toNat
def colsP (l : List UInt8) (k : Nat) : List (List UInt8) := (List.range k).map fun i => hexS [l.getD (2 * i) 0, l.getD (2 * i + 1) 0]
theorem dot_join (l : List UInt8) : ∀ k, dotV l k = joinL 46 (dotsP l k)
  | 0 => rfl
  | k + 1 => by
    have ih := dot_join l k
    unfold dotsP at ih ⊢
    rw [dotV, List.range_succ, List.map_append, List.map_singleton]
    by_cases h : k = 0
    · subst h; simp [dotV, joinL]
    · rw [join_snoc 46 _ (by simp; exact h), if_neg h, ih]; rfl
theorem col_join (l : List UInt8) : ∀ k, colV l k = joinL 58 (colsP l k)
  | 0 => rfl
  | k + 1 => by
    have ih := col_join l k
    unfold colsP at ih ⊢
    rw [colV, List.range_succ, List.map_append, List.map_singleton]
    by_cases h : k = 0
    · subst h; simp [colV, joinL]
    · rw [join_snoc 58 _ (by simp; exact h), if_neg h, ih]; rfl
theorem dig_sep {b : UInt8} (h : digB b = true) : sepQ b = false ∧ ¬ b = 46 ∧ ¬ b = 58 ∧ ¬ b = 47 := by
  refine ⟨?_, ?_, ?_, ?_⟩
  · unfold sepQ
    rw [Bool.or_eq_false_iff]
    exact ⟨by rw [beq_eq_false_iff_ne]; rintro rfl; exact absurd h (by decide), by rw [beq_eq_false_iff_ne]; rintro rfl; exact absurd h (by decide)⟩
  all_goals rintro rfl; exact absurd h (by decide)
theorem hex_sep {b : UInt8} (h : hexB b = true) : sepQ b = false ∧ ¬ b = 46 ∧ ¬ b = 58 ∧ ¬ b = 47 := by
  refine ⟨?_, ?_, ?_, ?_⟩
  · unfold sepQ
    rw [Bool.or_eq_false_iff]
    exact ⟨by rw [beq_eq_false_iff_ne]; rintro rfl; exact absurd h (by decide +kernel), by rw [beq_eq_false_iff_ne]; rintro rfl; exact absurd h (by decide +kernel)⟩
  all_goals rintro rfl; exact absurd h (by decide +kernel)
theorem dots_in {l : List UInt8} {k : Nat} {p : List UInt8} (hp : p ∈ dotsP l k) : ∃ i, i < k ∧ p = Lib.decDigits (l.getD i 0).toNat := by
  obtain ⟨i, hi, rfl⟩ := List.mem_map.1 hp
  exact ⟨i, List.mem_range.1 hi, rfl⟩
theorem cols_in {l : List UInt8} {k : Nat} {p : List UInt8} (hp : p ∈ colsP l k) : ∃ i, i < k ∧ p = hexS [l.getD (2 * i) 0, l.getD (2 * i + 1) 0] := by
  obtain ⟨i, hi, rfl⟩ := List.mem_map.1 hp
  exact ⟨i, List.mem_range.1 hi, rfl⟩
theorem dots_sep {l : List UInt8} {k : Nat} : ∀ p ∈ dotsP l k, ∀ b ∈ p, sepQ b = false ∧ ¬ b = 46 ∧ ¬ b = 58 ∧ ¬ b = 47 := by
  intro p hp b hb
  obtain ⟨i, _, rfl⟩ := dots_in hp
  exact dig_sep (List.all_eq_true.1 (dec_dig _) b hb)
theorem cols_sep {l : List UInt8} {k : Nat} : ∀ p ∈ colsP l k, ∀ b ∈ p, sepQ b = false ∧ ¬ b = 46 ∧ ¬ b = 58 ∧ ¬ b = 47 := by
  intro p hp b hb
  obtain ⟨i, _, rfl⟩ := cols_in hp
  exact hex_sep (List.all_eq_true.1 (hexS_hex _) b hb)
theorem no_slash {l : List UInt8} : ∀ b ∈ printV l, ¬ b = 47 := by
  intro b hb
  unfold printV at hb
  split at hb
  · rw [dot_join] at hb
    rcases mem_join hb with rfl | ⟨p, hp, hb⟩
    · decide
    · exact (dots_sep p hp b hb).2.2.2
  · rw [col_join] at hb
    rcases mem_join hb with rfl | ⟨p, hp, hb⟩
    · decide
    · exact (cols_sep p hp b hb).2.2.2
/-- What the parts give back. -/
theorem dots_out {l : List UInt8} : ∀ {ps : List (List UInt8)}, (∀ p ∈ ps, (numR p).2 = 0 ∧ (numR p).1 ≤ 255) → l = ps.map (fun p => UInt8.ofNat (numR p).1) → dotsP l ps.length = ps := by
  intro ps hok hl
  subst hl
  apply List.ext_getElem
  · simp [dotsP]
  · intro i h1 h2
    have hi : i < ps.length := h2
    obtain ⟨h3, h4⟩ := hok ps[i] (List.getElem_mem _)
    simp only [dotsP, List.getElem_map, List.getElem_range, List.getD_eq_getElem?_getD]
    rw [List.getElem?_map, List.getElem?_eq_getElem hi]
    simp only [Option.map_some, Option.getD_some]
    rw [UInt8.toNat_ofNat', Nat.mod_eq_of_lt (by omega), numR_back _ h3]
theorem two_of {l : List UInt8} (h : l.length = 2) : ∃ a b, l = [a, b] := by
  match l, h with
  | [a, b], _ => exact ⟨a, b, rfl⟩
theorem cols_out : ∀ {ps : List (List UInt8)}, (∀ p ∈ ps, (hexR p).2 = 0 ∧ (hexR p).1.length = 2) → colsP (ps.flatMap fun p => (hexR p).1) ps.length = ps
  | [], _ => rfl
  | p :: ps, hok => by
    have ih := cols_out (ps := ps) (fun q hq => hok q (List.mem_cons_of_mem _ hq))
    obtain ⟨h1, h2⟩ := hok p List.mem_cons_self
    obtain ⟨a, b, hab⟩ := two_of h2
    have hb := hexR_back p h1
    rw [List.flatMap_cons, hab]
    unfold colsP at ih ⊢
    rw [List.length_cons, List.range_succ_eq_map, List.map_cons, List.map_map]
    congr 1
    rw [← hb, hab]; rfl
end
section
open Go.RowKit

theorem mk_list (l : List UInt8) : (⟨l.toArray⟩ : ByteArray).data.toList = l := by simp
theorem mk_back {s : ByteArray} {l : List UInt8} (h : l = s.data.toList) : s = ⟨l.toArray⟩ := by
  subst h
  apply ByteArray.ext
  simp
theorem splitB_len (c : UInt8) (s : ByteArray) : (splitB c s).length = (splitL c s.data.toList).length := by unfold splitB; rw [List.length_map]
/-- What is read of a text with dots prints as it was. -/
theorem dot_back {s : ByteArray} {l : List UInt8} (h : readDot s = (l, 0)) : l.length = 4 ∧ printV l = s.data.toList := by
  unfold readDot at h
  split at h
  · rename_i hc
    obtain ⟨hok, hlen⟩ := hc
    injection h with h1 _
    have hout : outD (splitB 46 s) = (splitL 46 s.data.toList).map fun p => UInt8.ofNat (numR p).1 := by
      unfold outD splitB
      rw [List.map_map]
      apply List.map_congr_left
      intro p _
      simp
    rw [h1] at hlen
    have hl : (splitL 46 s.data.toList).length = 4 := by
      rw [hout] at h1
      rw [← h1, List.length_map] at hlen
      exact hlen
    refine ⟨hlen, ?_⟩
    have hp := dots_out (ps := splitL 46 s.data.toList) (l := l) (fun p hp => by
      have := hok ⟨p.toArray⟩ (by unfold splitB; exact List.mem_map.2 ⟨p, hp, rfl⟩)
      unfold okD at this
      rw [mk_list] at this
      exact this) (by rw [← h1, hout])
    unfold printV
    rw [if_pos hlen, dot_join, ← hl, hp, join_split]
  · injection h with _ h2
    cases h2
theorem col_back {s : ByteArray} {l : List UInt8} (h : readCol s = (l, 0)) : l.length = 16 ∧ printV l = s.data.toList := by
  unfold readCol at h
  split at h
  · rename_i hc
    obtain ⟨hok, hlen⟩ := hc
    injection h with h1 _
    have hout : outC (splitB 58 s) = (splitL 58 s.data.toList).flatMap fun p => (hexR p).1 := by
      unfold outC splitB
      rw [List.flatMap_map]
    have hl2 := outC_len hok
    rw [h1] at hlen hl2
    rw [splitB_len] at hl2
    have hl : (splitL 58 s.data.toList).length = 8 := by omega
    refine ⟨hlen, ?_⟩
    have hp := cols_out (ps := splitL 58 s.data.toList) (fun p hp => by
      have := hok ⟨p.toArray⟩ (by unfold splitB; exact List.mem_map.2 ⟨p, hp, rfl⟩)
      unfold okC at this
      rw [mk_list] at this
      exact this)
    unfold printV
    rw [if_neg (by omega), col_join, ← h1, hout, ← hl, hp, join_split]
  · injection h with _ h2
    cases h2
theorem readA_back {s : ByteArray} {l : List UInt8} (h : readA s = (l, 0)) : (l.length = 4 ∨ l.length = 16) ∧ printV l = s.data.toList := by
  unfold readA at h
  split at h
  · have := col_back h; exact ⟨.inr this.1, this.2⟩
  · have := dot_back h; exact ⟨.inl this.1, this.2⟩
theorem range_getD (l : List UInt8) : (List.range l.length).map (fun i => l.getD i 0) = l := by
  apply List.ext_getElem
  · simp
  · intro i h1 h2
    simp [List.getElem?_eq_getElem h2]
theorem range_two : ∀ (k : Nat) (l : List UInt8), l.length = 2 * k → (List.range k).flatMap (fun i => [l.getD (2 * i) 0, l.getD (2 * i + 1) 0]) = l
  | 0, l, h => by rw [List.length_eq_zero_iff.1 h]; rfl
  | k + 1, l, h => by
    match l, h with
    | a :: b :: r, h =>
      have ih := range_two k r (by simp at h; omega)
      rw [List.range_succ_eq_map, List.flatMap_cons, List.flatMap_map]
      show [a, b] ++ _ = _
      conv => rhs; rw [show a :: b :: r = [a, b] ++ r from rfl, ← ih]
      rfl
theorem code_dec {l : List UInt8} {i : Nat} : numR (Lib.decDigits (l.getD i 0).toNat) = ((l.getD i 0).toNat, 0) := numR_dec _ (Nat.lt_of_lt_of_le (UInt8.toNat_lt _) (by decide))
/-- A text that Print prints is read. -/
theorem readA_print {l : List UInt8} (h : l.length = 4 ∨ l.length = 16) : readA ⟨(printV l).toArray⟩ = (l, 0) := by
  unfold readA
  rw [mk_list]
  by_cases h4 : l.length = 4
  · have hp : printV l = joinL 46 (dotsP l 4) := by unfold printV; rw [if_pos h4, dot_join]
    have hn : Lib.indexByte (printV l) 58 < 0 := idx_none (by
      rw [hp]
      intro b hb
      rcases mem_join hb with rfl | ⟨p, hq, hb⟩
      · decide
      · exact (dots_sep p hq b hb).2.2.1)
    rw [if_neg (by omega)]
    have hs : splitB 46 ⟨(printV l).toArray⟩ = (dotsP l 4).map fun p => ⟨p.toArray⟩ := by
      unfold splitB
      rw [mk_list, hp, splitL_join (by simp [dotsP]) (fun p hp b hb => (dots_sep p hp b hb).2.1)]
    have ho : outD (splitB 46 ⟨(printV l).toArray⟩) = l := by
      rw [hs]
      unfold outD dotsP
      rw [List.map_map, List.map_map]
      conv => rhs; rw [← range_getD l, h4]
      apply List.map_congr_left
      intro i _
      simp only [Function.comp, mk_list, code_dec]
      exact UInt8.ofNat_toNat
    have hok : ∀ p ∈ splitB 46 ⟨(printV l).toArray⟩, okD p := by
      rw [hs]
      intro p hp
      obtain ⟨q, hq, rfl⟩ := List.mem_map.1 hp
      obtain ⟨i, _, rfl⟩ := dots_in hq
      unfold okD
      rw [mk_list, code_dec]
      have := UInt8.toNat_lt (l.getD i 0)
      exact ⟨rfl, by show _ ≤ 255; omega⟩
    unfold readDot
    rw [if_pos ⟨hok, by rw [ho]; exact h4⟩, ho]
  · have h16 : l.length = 16 := by omega
    have hp : printV l = joinL 58 (colsP l 8) := by unfold printV; rw [if_neg h4, col_join]
    have hsl : splitL 58 (printV l) = colsP l 8 := by rw [hp, splitL_join (by simp [colsP]) (fun p hp b hb => (cols_sep p hp b hb).2.2.1)]
    have hn : 0 ≤ Lib.indexByte (printV l) 58 := by
      by_cases hneg : Lib.indexByte (printV l) 58 < 0
      · have := congrArg List.length (split_none hneg)
        rw [hsl] at this
        simp [colsP] at this
      · omega
    rw [if_pos hn]
    have hs : splitB 58 ⟨(printV l).toArray⟩ = (colsP l 8).map fun p => ⟨p.toArray⟩ := by
      unfold splitB
      rw [mk_list, hsl]
    have ho : outC (splitB 58 ⟨(printV l).toArray⟩) = l := by
      rw [hs]
      unfold outC colsP
      rw [List.flatMap_map, List.flatMap_map]
      conv => rhs; rw [← range_two 8 l h16]
      simp only [mk_list, hexR_hexS]
    have hok : ∀ p ∈ splitB 58 ⟨(printV l).toArray⟩, okC p := by
      rw [hs]
      intro p hp
      obtain ⟨q, hq, rfl⟩ := List.mem_map.1 hp
      obtain ⟨i, _, rfl⟩ := cols_in hq
      unfold okC
      rw [mk_list, hexR_hexS]
      exact ⟨rfl, rfl⟩
    unfold readCol
    rw [if_pos ⟨hok, by rw [ho]; exact h16⟩, ho]
theorem mk_size (l : List UInt8) : (⟨l.toArray⟩ : ByteArray).size = l.length := by simp [ByteArray.size]
theorem col_size (l : List UInt8) : ∀ k, 0 < k → (colV l k).length = 5 * k - 1
  | 0, h => by omega
  | 1, _ => by simp [colV, hexS]
  | k + 2, _ => by
    have := col_size l (k + 1) (by omega)
    rw [colV, List.length_append, List.length_append, if_neg (by omega), hex_two, this]
    simp
    omega
theorem dec_short {u : Nat} (h : u < 256) : (Lib.decDigits u).length ≤ 3 := by
  revert u
  decide +kernel
theorem dot_short (l : List UInt8) : ∀ k, (dotV l k).length ≤ 4 * k
  | 0 => by simp [dotV]
  | k + 1 => by
    have h1 := dot_short l k
    have h2 := dec_short (UInt8.toNat_lt (l.getD k 0))
    have h3 : (if k = 0 then ([] : List UInt8) else [46]).length ≤ 1 := by split <;> simp
    rw [dotV, List.length_append, List.length_append]
    omega
theorem refR_back {s : ByteArray} {l : List UInt8} (h : refR s = some l) : (l.length = 4 ∨ l.length = 16) ∧ printV l = s.data.toList := by
  unfold refR at h
  by_cases hc : (∀ p ∈ splitQ s.data.toList, okQ (decide (s.size = 39)) p) ∧ ((splitQ s.data.toList).flatMap (valQ (decide (s.size = 39)))).length = (if s.size = 39 then 16 else 4) ∧ printV ((splitQ s.data.toList).flatMap (valQ (decide (s.size = 39)))) = s.data.toList
  · rw [if_pos hc] at h
    injection h with h
    obtain ⟨_, h1, h2⟩ := hc
    rw [h] at h1 h2
    refine ⟨?_, h2⟩
    split at h1
    · exact .inr h1
    · exact .inl h1
  · rw [if_neg hc] at h
    cases h
theorem refR_print {l : List UInt8} (h : l.length = 4 ∨ l.length = 16) : refR ⟨(printV l).toArray⟩ = some l := by
  unfold refR
  rw [mk_list, mk_size]
  by_cases h4 : l.length = 4
  · have hp : printV l = joinL 46 (dotsP l 4) := by unfold printV; rw [if_pos h4, dot_join]
    have hz : ¬ (printV l).length = 39 := by
      have := dot_short l 4
      unfold printV
      rw [if_pos h4]
      omega
    have hs : splitQ (printV l) = dotsP l 4 := by rw [hp, splitQ_join rfl (by simp [dotsP]) (fun p hp b hb => (dots_sep p hp b hb).1)]
    have ho : (splitQ (printV l)).flatMap (valQ false) = l := by
      rw [hs]
      unfold dotsP
      rw [List.flatMap_map]
      conv => rhs; rw [← range_getD l, h4]
      have : ∀ i, valQ false (Lib.decDigits (l.getD i 0).toNat) = [l.getD i 0] := fun i => by
        unfold valQ
        rw [if_neg (by simp), code_dec]
        simp only
        rw [Nat.mod_eq_of_lt (UInt8.toNat_lt _), UInt8.ofNat_toNat]
      simp only [this]
      rw [List.map_eq_flatMap]
    have hok : ∀ p ∈ splitQ (printV l), okQ false p := by
      rw [hs]
      intro p hp
      obtain ⟨i, _, rfl⟩ := dots_in hp
      unfold okQ
      rw [if_neg (by simp), code_dec]
    rw [decide_eq_false hz, if_neg hz, if_pos ⟨hok, by rw [ho]; exact h4, by rw [ho]⟩, ho]
  · have h16 : l.length = 16 := by omega
    have hp : printV l = joinL 58 (colsP l 8) := by unfold printV; rw [if_neg h4, col_join]
    have hz : (printV l).length = 39 := by
      unfold printV
      rw [if_neg h4, col_size l 8 (by omega)]
    have hs : splitQ (printV l) = colsP l 8 := by rw [hp, splitQ_join rfl (by simp [colsP]) (fun p hp b hb => (cols_sep p hp b hb).1)]
    have ho : (splitQ (printV l)).flatMap (valQ true) = l := by
      rw [hs]
      unfold colsP
      rw [List.flatMap_map]
      conv => rhs; rw [← range_two 8 l h16]
      have : ∀ i, valQ true (hexS [l.getD (2 * i) 0, l.getD (2 * i + 1) 0]) = [l.getD (2 * i) 0, l.getD (2 * i + 1) 0] := fun i => by
        unfold valQ
        rw [if_pos rfl, hexR_hexS]
      simp only [this]
    have hok : ∀ p ∈ splitQ (printV l), okQ true p := by
      rw [hs]
      intro p hp
      obtain ⟨i, _, rfl⟩ := cols_in hp
      unfold okQ
      rw [if_pos rfl, hexR_hexS]
    rw [decide_eq_true hz, if_pos hz, if_pos ⟨hok, by rw [ho]; exact h16, by rw [ho]⟩, ho]
/-- The two read the same. -/
theorem read_same (s : ByteArray) : refR s = if (readA s).2 = 0 then some (readA s).1 else none := by
  by_cases h : (readA s).2 = 0
  · rw [if_pos h]
    have hb := readA_back (s := s) (l := (readA s).1) (by rw [← h])
    have := refR_print hb.1
    exact (congrArg refR (mk_back hb.2)).trans this
  · rw [if_neg h]
    cases hr : refR s with
    | none => rfl
    | some l =>
      have hb := refR_back hr
      have := readA_print hb.1
      rw [← mk_back hb.2] at this
      rw [this] at h
      exact absurd rfl h
end
section
open Go.RowKit

def PPost (r : Option (List UInt8 × Nat)) (w : World) (e : Ending) (w' : World) : Prop := match r with
  | some (l, b) => PfxPost l b 0 w e w'
  | none => PfxPost [] 0 3 w e w'
theorem isPlain_iff {l : List UInt8} {b : Nat} : isPlain l (b : Int) = true ↔ rightV l b = true ∧ plainV l b = l := by
  unfold isPlain
  rw [Bool.and_eq_true, decide_eq_true_eq, Int.toNat_natCast, plain_eq]
theorem refP_idx {s : ByteArray} {i : Nat} (h : Lib.indexByte s.data.toList 47 = (i : Int)) : refP s = refP2 (s.extract 0 i) (s.extract (i + 1) s.size) := by
  unfold refP
  rw [h, if_neg (by omega), Int.toNat_natCast]
theorem ReadPrefix_any (w : World) (s : ByteArray) (hs : s.size ≤ 1000000) : Calls Tryd.prog 8 #[.string s] w (PPost (refP s) w) := by
  by_cases hneg : Lib.indexByte s.data.toList 47 < 0
  · rw [show refP s = none from if_pos hneg]
    exact rp_none w s hs hneg
  · obtain ⟨i, hi⟩ : ∃ i : Nat, Lib.indexByte s.data.toList 47 = (i : Int) := ⟨(Lib.indexByte s.data.toList 47).toNat, by omega⟩
    rw [refP_idx hi]
    obtain ⟨X, hX⟩ : ∃ X : ByteArray, X = s.extract 0 i := ⟨_, rfl⟩
    obtain ⟨Y, hY⟩ : ∃ Y : ByteArray, Y = s.extract (i + 1) s.size := ⟨_, rfl⟩
    rw [← hX, ← hY]
    unfold refP2
    rw [read_same X]
    by_cases ha : (readA X).2 = 0
    · rw [if_pos ha]
      simp only
      by_cases hb : (numR Y.data.toList).2 = 0
      · by_cases hb2 : (numR Y.data.toList).1 ≤ 128
        · by_cases hp : isPlain (readA X).1 ((numR Y.data.toList).1 : Int) = true
          · have hpp := isPlain_iff.1 hp
            rw [if_pos ⟨hb, hb2, hpp.1, hpp.2⟩]
            exact rp_plain w s hs i hi X Y hX hY ha hb hb2 hp
          · rw [if_neg (fun h => hp (isPlain_iff.2 ⟨h.2.2.1, h.2.2.2⟩))]
            exact rp_notplain w s hs i hi X Y hX hY ha hb hb2 (by simpa using hp)
        · rw [if_neg (fun h => hb2 h.2.1)]
          exact rp_bignum w s hs i hi X Y hX hY ha hb (by omega)
      · rw [if_neg (fun h => hb h.1)]
        exact rp_badnum w s hs i hi X Y hX hY ha hb
    · rw [if_neg ha]
      exact rp_badread w s hs i hi X Y hX hY ha
theorem slash_at {a r : List UInt8} (h : ∀ b ∈ a, ¬ b = 47) : Lib.indexByte (a ++ 47 :: r) 47 = (a.length : Int) :=
  idx_some (by simp) (fun b hb => h b (by rw [List.take_left] at hb; exact hb)) (by simp)
theorem refP_print {l : List UInt8} {b : Nat} (h : isPlain l (b : Int) = true) : refP ⟨(printV l ++ ([47] ++ Lib.decDigits b)).toArray⟩ = some (l, b) := by
  have hp := isPlain_iff.1 h
  obtain ⟨_, hb1, hb2, h416⟩ := right_nat2 hp.1
  rw [refP_idx (i := (printV l).length) (by rw [mk_list]; exact slash_at no_slash)]
  have hX : (⟨(printV l ++ ([47] ++ Lib.decDigits b)).toArray⟩ : ByteArray).extract 0 (printV l).length = ⟨(printV l).toArray⟩ := mk_back (by rw [ext_list, mk_list, List.take_left, List.drop_zero])
  have hY : (⟨(printV l ++ ([47] ++ Lib.decDigits b)).toArray⟩ : ByteArray).extract ((printV l).length + 1) (⟨(printV l ++ ([47] ++ Lib.decDigits b)).toArray⟩ : ByteArray).size = ⟨(Lib.decDigits b).toArray⟩ := mk_back (by
    rw [ext_list, mk_list, mk_size, List.take_length, List.drop_append]
    simp)
  rw [hX, hY]
  unfold refP2
  rw [refR_print h416, mk_list, numR_dec b (by omega)]
  exact if_pos ⟨rfl, by show b ≤ 128; omega, hp.1, hp.2⟩
end
end Go.Proofs.YthecnaclfhfilaaDoor

/-
  Walks and plain words (texts Num1, Num2, Num3, Num4, Tm4). No condition beyond those that each theorem states.
-/
import Derived.Laws.RangeAny
import Derived.ScopeJumps
import Derived.Test.YtfipdjlalfpbnaaGreatDoorM02
namespace Go.Proofs.YtfipdjlalfpbnaaGreatDoor
section
open Go.RowKit Go.Deep

def digB (c : UInt8) : Bool := decide (48 ≤ c.toNat) && decide (c.toNat ≤ 57)
/-- On from u, digit by digit; none: too great. -/
def accN : List UInt8 → Nat → Option Nat
  | [], u => some u
  | c :: r, u => if 1844674407370955161 < u ∨ (u = 1844674407370955161 ∧ 5 < c.toNat - 48) then none else accN r (u * 10 + (c.toNat - 48))
/-- The number and the code of a text. -/
def numR (l : List UInt8) : Nat × Nat :=
  if l = [] then (0, 3) else if l.all digB = false then (0, 3) else if l.head? = some 48 ∧ 1 < l.length then (0, 3) else
    match accN l 0 with
    | none => (0, 5)
    | some u => (u, 0)
theorem accN_lt : ∀ (l : List UInt8) (u v : Nat), l.all digB = true → u < 18446744073709551616 → accN l u = some v → v < 18446744073709551616
  | [], u, v, _, hu, h => by simp [accN] at h; omega
  | c :: r, u, v, hd, hu, h => by
    rw [accN] at h
    split at h
    · cases h
    · rename_i hn
      simp only [List.all_cons, Bool.and_eq_true] at hd
      have h2 := hd.1
      unfold digB at h2
      simp only [Bool.and_eq_true, decide_eq_true_eq] at h2
      exact accN_lt r _ v hd.2 (by omega) h
theorem numR_lt (l : List UInt8) : (numR l).1 < 18446744073709551616 := by
  unfold numR
  split
  · decide
  · split
    · decide
    · split
      · decide
      · rename_i h1 h2 h3
        split
        · decide
        · rename_i u hu
          exact accN_lt l 0 u (by simpa using h2) (by decide) hu
def NumRPost (r : Nat × Nat) (w : World) (e : Ending) (w' : World) : Prop := e = .returned (.tuple #[.int .u64 r.1, .int .i64 r.2]) ∧ Only [] w w'
theorem numr {a b : Nat} {r : Nat × Nat} {w w' : World} (h : r = (a, b)) (ho : Only [] w w') : NumRPost r w (.returned (.tuple #[.int .u64 a, .int .i64 b])) w' := by
  subst h; exact ⟨rfl, ho⟩
theorem only_iter (w : World) (s : ByteArray) (p : Nat) : Only [] w (w.iter s p) := (Only.refl [] w).alloc _
theorem all_false (l : List UInt8) (i : Nat) (h : i < l.length) (hd : digB l[i] = false) : l.all digB = false := by
  rw [List.all_eq_false]
  exact ⟨l[i], List.getElem_mem h, by simp [hd]⟩
theorem all_true (l : List UInt8) (h : ∀ i (hi : i < l.length), digB l[i] = true) : l.all digB = true := by
  rw [List.all_eq_true]
  intro x hx
  obtain ⟨i, hi, rfl⟩ := List.getElem_of_mem hx
  exact h i hi
theorem empty_of (s : ByteArray) (h : s.size = 0) : s.data.toList = [] := by
  rw [List.eq_nil_iff_length_eq_zero, Array.length_toList]; exact h
theorem not_empty (s : ByteArray) (h : 0 < s.size) : s.data.toList ≠ [] := by
  intro e
  have : s.data.toList.length = 0 := by rw [e]; rfl
  rw [Array.length_toList] at this
  have h2 : s.data.size = s.size := rfl
  omega
theorem numR_empty (s : ByteArray) (h : s.size = 0) : numR s.data.toList = (0, 3) := by unfold numR; rw [if_pos (empty_of s h)]
theorem numR_bad (s : ByteArray) (i : Nat) (h : i < s.size) (hd : digB s[i] = false) : numR s.data.toList = (0, 3) := by
  unfold numR; rw [if_neg (not_empty s (by omega)), if_pos (all_false _ i (by simpa using h) hd)]
theorem numR_lead (s : ByteArray) (h : 1 < s.size) (hd : s[0].toNat = 48) : numR s.data.toList = (0, 3) := by
  have hl : s.data.toList.length = s.size := rfl
  have hh : s.data.toList.head? = some 48 := by
    rw [List.head?_eq_getElem?, List.getElem?_eq_getElem (by omega)]
    congr 1
    exact UInt8.toNat_inj.1 hd
  unfold numR
  split
  · rfl
  · split
    · rfl
    · rw [if_pos ⟨hh, by omega⟩]
theorem numR_go (s : ByteArray) (h : 0 < s.size) (hd : s.data.toList.all digB = true) (h0 : ¬ (s[0].toNat = 48 ∧ 1 < s.size)) :
    numR s.data.toList = match accN s.data.toList 0 with | none => (0, 5) | some u => (u, 0) := by
  have hl : s.data.toList.length = s.size := rfl
  unfold numR
  rw [if_neg (not_empty s h), if_neg (by simp [hd]), if_neg]
  rintro ⟨a, b⟩
  refine h0 ⟨?_, by omega⟩
  rw [List.head?_eq_getElem?, List.getElem?_eq_getElem (by omega)] at a
  simp only [Option.some.injEq] at a
  have : s[0] = 48 := a
  rw [this]
  rfl
end
section
open Go.RowKit Go.Deep

/-- All signs before k are digits. -/
def Digs (s : ByteArray) (k : Nat) : Prop := ∀ i (h : i < s.size), i < k → digB s[i] = true
def ReadLoop (w : World) (s : ByteArray) (a' : Act) (w' : World) : Prop :=
  ∃ (K U : Int) (u1 u2 u3 u4 u5 u8 u9 u10 u11 u12 u13 u14 u15 u16 u17 u18 u19 u20 u21 u22 u23 u24 u25 u26 u27 u28 u29 u30 u31 u32 u33 u34 u35 u36 u37 u38 u39 u40 u41 u42 u43 u44 u45 u46 u47 u48 u49 u50 u51 u52 u53 u54 u55 : Value), a' = ⟨#[.string s, u1, u2, u3, u4, u5, .int .u64 U, .int .i64 K, u8, u9, u10, u11, u12, u13, u14, u15, u16, u17, u18, u19, u20, u21, u22, u23, u24, u25, u26, u27, u28, u29, u30, u31, u32, u33, u34, u35, u36, u37, u38, u39, u40, u41, u42, u43, u44, u45, u46, u47, u48, u49, u50, u51, u52, u53, u54, u55], []⟩ ∧ w' = w.iter s s.size ∧ ∃ k u : Nat, K = k ∧ U = u ∧ k ≤ s.size ∧ u < 18446744073709551616 ∧ Digs s s.size ∧ ¬ (1 < s.size ∧ s.data.toList.head? = some 48) ∧ accN (s.data.toList.drop k) u = accN s.data.toList 0

theorem toList_e (s : ByteArray) (h : s.size = 0) : s.toList.isEmpty = true := by rw [ByteArray.toList_eq, empty_of s h]; rfl
theorem toList_n (s : ByteArray) (h : 0 < s.size) : s.toList.isEmpty = false := by
  rw [ByteArray.toList_eq]
  cases hl : s.data.toList with
  | nil => exact absurd hl (not_empty s h)
  | cons _ _ => rfl
set_option maxRecDepth 100000 in
set_option maxHeartbeats 3200000 in
theorem num_read_empty (w : World) (s : ByteArray) (h0 : s.size = 0) :
    Calls Tryz.prog 166 #[.string s] w (NumRPost (numR s.data.toList) w) := by
  have HR := hide (numR_empty s h0)
  have he2 := toList_e s h0
  clear h0
  go_enter Tryz.func166, Tryz.ntmps166
  go_wp2_with fail
  refine wp_scope_jumps 0 (fun _ _ => False) (fun _ _ => 0) rfl ?_ ?_
  · go_wp2_with fail
    simp only [Exit.jump]
    refine bodyPost_ret (results_tmp2 rfl _ _ _) rfl ?_
    exact numr HR.out (Only.refl _ _)
  · intro a' w' h
    cases h
theorem digs_succ {s : ByteArray} {k : Nat} (h : Digs s k) (hk : k < s.size) (hd : digB s[k] = true) : Digs s (k + 1) := by
  intro i hi hik
  by_cases e : i = k
  · subst e; exact hd
  · exact h i hi (by omega)

theorem head_of {s : ByteArray} (hp : 0 < s.size) (h : ¬ (s[0].toNat = 48 ∧ 1 < s.size)) : ¬ (1 < s.size ∧ s.data.toList.head? = some 48) := by
  rintro ⟨a, b⟩
  refine h ⟨?_, a⟩
  rw [List.head?_eq_getElem?, List.getElem?_eq_getElem (by simpa using hp)] at b
  simp only [Option.some.injEq] at b
  have : s[0] = 48 := b
  rw [this]
  rfl
theorem of_head {s : ByteArray} (hp : 0 < s.size) (h : ¬ (1 < s.size ∧ s.data.toList.head? = some 48)) : ¬ (s[0].toNat = 48 ∧ 1 < s.size) := by
  rintro ⟨a, b⟩
  refine h ⟨b, ?_⟩
  rw [List.head?_eq_getElem?, List.getElem?_eq_getElem (by simpa using hp)]
  congr 1
  exact UInt8.toNat_inj.1 a
theorem decode_dig (s : ByteArray) (k : Nat) (h : k < s.size) (hd : digB s[k] = true) : Utf8.decode s k = (s[k].toNat, 1) := by
  refine decode_ascii s k h ?_
  simp [digB] at hd
  omega
theorem decode_bad (s : ByteArray) (k : Nat) (h : k < s.size) (hd : digB s[k] = false) : (Utf8.decode s k).1 < 48 ∨ 57 < (Utf8.decode s k).1 := by
  by_cases ha : s[k].toNat < 128
  · rw [decode_ascii s k h ha]
    simp [digB] at hd
    simp only
    omega
  · have := (decode_high s k h (by omega)).1
    omega

set_option maxRecDepth 100000 in
set_option maxHeartbeats 6400000 in
theorem num_read_some (w : World) (s : ByteArray) (hs : s.size ≤ maxLen) (hpos : 0 < s.size) :
    Calls Tryz.prog 166 #[.string s] w (NumRPost (numR s.data.toList) w) := by
  unfold maxLen at hs
  have he2 := toList_n s hpos
  go_enter Tryz.func166, Tryz.ntmps166
  go_wp2_with fail
  refine wp_scope_jumps 0 (ReadLoop w s) (fun a' _ => s.size - (intOf (a'.tmps.getD 7 undef)).toNat) rfl ?_ ?_
  · go_wp2_with fail
    go_loopg [5] s.size (fun gk r wr => ∃ k : Nat, k ≤ s.size ∧ gk + k = s.size ∧ Hid (Digs s k) ∧ wr = w.iter s k)
    case atStart => exact ⟨0, Nat.zero_le _, by omega, hide (fun i _ h => by omega), rfl⟩
    case round =>
      obtain ⟨k, hk, hgk, hdg, rfl⟩ := hrel
      have HG := hide hgk
      clear hgk
      by_cases hlt : k < s.size
      · have hnx : ∀ ty, (Instr.next (.pointer (some ⟨w.heap.size, 0, none⟩)) true ty).run Tryz.prog (w.iter s k) = _ := fun ty => run_next_any w s k ty hlt
        cases hd : digB s[k] with
        | true =>
          rw [decode_dig s k hlt hd] at hnx
          have hc1 : 48 ≤ s[k].toNat := by simp [digB] at hd; omega
          have hc2 : s[k].toNat ≤ 57 := by simp [digB] at hd; omega
          have hc1' : (48 : Int) ≤ s[k].toNat := by omega
          have hc2' : (s[k].toNat : Int) ≤ 57 := by omega
          have HS := hide (digs_succ hdg.out hlt hd)
          clear hd
          go_wp2_with fail
          go_roundg (gk - 1)
          case rel => exact ⟨k + 1, by omega, by have := HG.out; omega, HS, rfl⟩
          case measure => have := HG.out; omega
        | false =>
          have hb := decode_bad s k hlt hd
          have HR := hide (numR_bad s k hlt hd)
          have hr := decode_le s k
          clear hd
          generalize Utf8.decode s k = d at *
          obtain ⟨r, n⟩ := d
          simp only at hb hr hnx
          rcases hb with hb | hb
          · have hb' : (r : Int) < 48 := by omega
            go_wp2_with fail
            simp only [Exit.jump]
            refine bodyPost_ret (results_tmp2 rfl _ _ _) rfl ?_
            exact numr HR.out (only_iter w s _)
          · have hb' : (57 : Int) < r := by omega
            have hb2 : ¬ (r : Int) < 48 := by omega
            go_wp2_with fail
            simp only [Exit.jump]
            refine bodyPost_ret (results_tmp2 rfl _ _ _) rfl ?_
            exact numr HR.out (only_iter w s _)
      · obtain rfl : k = s.size := by omega
        have hnx : ∀ ty, (Instr.next (.pointer (some ⟨w.heap.size, 0, none⟩)) true ty).run Tryz.prog (w.iter s s.size) = _ := fun ty => run_next_end w s s.size ty hlt
        have HALL := hide (all_true s.data.toList fun i hi => hdg.out i (by simpa using hi) (by simpa using hi))
        by_cases hlead : s[0].toNat = 48 ∧ 1 < s.size
        · obtain ⟨h1, h2⟩ := hlead
          have HR := hide (numR_lead s h2 h1)
          have h1' : ((s[0].toNat : Int) == 48) = true := by rw [beq_iff_eq]; omega
          have h2' : (1 : Int) < s.size := by omega
          clear h1
          go_wp2_with fail
          simp only [Exit.jump]
          refine bodyPost_ret (results_tmp2 rfl _ _ _) rfl ?_
          exact numr HR.out (only_iter w s _)
        · have HGO := hide (numR_go s hpos HALL.out hlead)
          have HDG := hide hdg.out
          have HLD := hide (head_of hpos hlead)
          have HACC := hide (show accN (s.data.toList.drop 0) 0 = accN s.data.toList 0 from rfl)
          have hlt0 : 0 < s.size := hpos
          have hltI : (0 : Int) < s.size := by omega
          have hb2 : ((0 : Int) == (s.size : Int)) = false := by rw [beq_eq_false_iff_ne]; omega
          have HDR := hide (drop_at s 0 hpos)
          have HC := hdg.out 0 hpos hpos
          have hc1 : 48 ≤ s[0].toNat := by simp [digB] at HC; omega
          have hc2 : s[0].toNat ≤ 57 := by simp [digB] at HC; omega
          have hc1' : (48 : Int) ≤ s[0].toNat := by omega
          have hc2' : (s[0].toNat : Int) ≤ 57 := by omega
          have HN := hide (show accN (s.data.toList.drop (0 + 1)) (s[0].toNat - 48) = accN s.data.toList 0 from by rw [← HACC.out, HDR.out, accN, if_neg (by omega)]; simp only [Nat.zero_mul, Nat.zero_add])
          clear HC
          by_cases h1 : s[0].toNat = 48
          · have h1' : ((s[0].toNat : Int) == 48) = true := by rw [beq_iff_eq]; omega
            have h2' : ¬ (1 : Int) < s.size := by omega
            clear h1 hlead
            go_wp2_with fail
            go_step3
            go_wp2_with fail
            go_step3
            exact ⟨rfl, _, _, _, _, _, _, _, _, _, _, _, _, _, _, _, _, _, _, _, _, _, _, _, _, _, _, _, _, _, _, _, _, _, _, _, _, _, _, _, _, _, _, _, _, _, _, _, _, _, _, _, _, _, _, _, rfl, rfl, 1, s[0].toNat - 48, by omega, by omega, by omega, by omega, HDG.out, HLD.out, HN.out⟩
          · have h1' : ((s[0].toNat : Int) == 48) = false := by rw [beq_eq_false_iff_ne]; omega
            clear h1 hlead
            go_wp2_with fail
            go_step3
            go_wp2_with fail
            go_step3
            exact ⟨rfl, _, _, _, _, _, _, _, _, _, _, _, _, _, _, _, _, _, _, _, _, _, _, _, _, _, _, _, _, _, _, _, _, _, _, _, _, _, _, _, _, _, _, _, _, _, _, _, _, _, _, _, _, _, _, _, rfl, rfl, 1, s[0].toNat - 48, by omega, by omega, by omega, by omega, HDG.out, HLD.out, HN.out⟩
  · rintro a' w' ⟨K, U, u1, u2, u3, u4, u5, u8, u9, u10, u11, u12, u13, u14, u15, u16, u17, u18, u19, u20, u21, u22, u23, u24, u25, u26, u27, u28, u29, u30, u31, u32, u33, u34, u35, u36, u37, u38, u39, u40, u41, u42, u43, u44, u45, u46, u47, u48, u49, u50, u51, u52, u53, u54, u55, rfl, rfl, k, u, rfl, rfl, hk, hu, hdg, hld, hacc⟩
    have HDG := hide hdg
    have HLD := hide hld
    have HACC := hide hacc
    have HALL := hide hdg
    have HGO := hide (numR_go s hpos (all_true s.data.toList fun i hi => hdg i (by simpa using hi) (by simpa using hi)) (of_head hpos hld))
    clear hdg hld hacc
    by_cases hke : k = s.size
    · have HR := hide (show numR s.data.toList = (u, 0) from by rw [HGO.out, ← HACC.out, hke, show List.drop s.size s.data.toList = [] from List.drop_of_length_le (Nat.le_of_eq rfl)]; rfl)
      have hb2 : ((k : Int) == (s.size : Int)) = true := by rw [beq_iff_eq]; omega
      clear hke
      go_wp2_with fail
      simp only [Exit.jump]
      refine bodyPost_ret (results_tmp2 rfl _ _ _) rfl ?_
      exact numr HR.out (only_iter w s s.size)
    · have hlt : k < s.size := by omega
      have hlt' : (k : Int) < s.size := by omega
      have hb2 : ((k : Int) == (s.size : Int)) = false := by rw [beq_eq_false_iff_ne]; omega
      have HDR := hide (drop_at s k hlt)
      have HC := HALL.out k hlt hlt
      have hc1 : 48 ≤ s[k].toNat := by simp [digB] at HC; omega
      have hc2 : s[k].toNat ≤ 57 := by simp [digB] at HC; omega
      have hc1' : (48 : Int) ≤ s[k].toNat := by omega
      have hc2' : (s[k].toNat : Int) ≤ 57 := by omega
      clear HC hke
      by_cases h1 : 1844674407370955161 < u
      · have HR := hide (show numR s.data.toList = (0, 5) from by rw [HGO.out, ← HACC.out, HDR.out, accN, if_pos (.inl h1)])
        have h1' : (1844674407370955161 : Int) < u := by omega
        clear h1
        go_wp2_with fail
        simp only [Exit.jump]
        refine bodyPost_ret (results_tmp2 rfl _ _ _) rfl ?_
        exact numr HR.out (only_iter w s s.size)
      · have h1' : ¬ (1844674407370955161 : Int) < u := by omega
        by_cases h2 : u = 1844674407370955161
        · have HU := hide h2
          have h2' : ((u : Int) == 1844674407370955161) = true := by rw [beq_iff_eq]; omega
          by_cases h3 : 53 < s[k].toNat
          · have HR := hide (show numR s.data.toList = (0, 5) from by rw [HGO.out, ← HACC.out, HDR.out, accN, if_pos (.inr ⟨HU.out, by omega⟩)])
            have h3' : (5 : Int) < s[k].toNat - 48 := by omega
            clear h1 h2 h3
            go_wp2_with fail
            simp only [Exit.jump]
            refine bodyPost_ret (results_tmp2 rfl _ _ _) rfl ?_
            exact numr HR.out (only_iter w s s.size)
          · have HN := hide (show accN (s.data.toList.drop (k + 1)) (u * 10 + (s[k].toNat - 48)) = accN s.data.toList 0 from by rw [← HACC.out, HDR.out, accN, if_neg (by omega)])
            have h3' : ¬ (5 : Int) < s[k].toNat - 48 := by omega
            have hlim : u * 10 + (s[k].toNat - 48) < 18446744073709551616 := by omega
            clear h1 h2 h3
            go_wp2_with fail
            go_step3
            refine ⟨rfl, ⟨_, _, _, _, _, _, _, _, _, _, _, _, _, _, _, _, _, _, _, _, _, _, _, _, _, _, _, _, _, _, _, _, _, _, _, _, _, _, _, _, _, _, _, _, _, _, _, _, _, _, _, _, _, _, _, rfl, rfl, k + 1, u * 10 + (s[k].toNat - 48), by omega, by omega, by omega, hlim, HDG.out, HLD.out, HN.out⟩, ?_⟩
            simp [intOf]
            omega
        · have HN := hide (show accN (s.data.toList.drop (k + 1)) (u * 10 + (s[k].toNat - 48)) = accN s.data.toList 0 from by rw [← HACC.out, HDR.out, accN, if_neg (by omega)])
          have h2' : ((u : Int) == 1844674407370955161) = false := by rw [beq_eq_false_iff_ne]; omega
          have hlim : u * 10 + (s[k].toNat - 48) < 18446744073709551616 := by omega
          have hu1 : (u : Int) ≤ 1844674407370955160 := by omega
          clear h1 h2
          go_wp2_with fail
          go_step3
          refine ⟨rfl, ⟨_, _, _, _, _, _, _, _, _, _, _, _, _, _, _, _, _, _, _, _, _, _, _, _, _, _, _, _, _, _, _, _, _, _, _, _, _, _, _, _, _, _, _, _, _, _, _, _, _, _, _, _, _, _, _, rfl, rfl, k + 1, u * 10 + (s[k].toNat - 48), by omega, by omega, by omega, hlim, HDG.out, HLD.out, HN.out⟩, ?_⟩
          simp [intOf]
          omega
end
section
open Go.RowKit Go.Deep

theorem num_read (w : World) (s : ByteArray) (hs : s.size ≤ 1000000) : Calls Tryz.prog 166 #[.string s] w (NumRPost (numR s.data.toList) w) := by
  rcases Nat.eq_zero_or_pos s.size with h | h
  · exact num_read_empty w s h
  · exact num_read_some w s (by unfold maxLen; omega) h

def hexB (c : UInt8) : Bool := decide (0 ≤ signV c.toNat)
def nib (c : UInt8) : Nat := (signV c.toNat).toNat
def hexP : List UInt8 → List UInt8
  | a :: b :: r => UInt8.ofNat (16 * nib a + nib b) :: hexP r
  | _ => []
def hexR (l : List UInt8) : List UInt8 × Nat := if l.all hexB = false then ([], 3) else if l.length % 2 = 1 then ([], 4) else (hexP l, 0)
theorem nib_lt (c : UInt8) : nib c < 16 := by unfold nib signV; split <;> (try split) <;> omega
theorem sign_nib {c : UInt8} (h : hexB c = true) : signV c.toNat = (nib c : Nat) := by
  unfold hexB at h
  unfold nib
  have := of_decide_eq_true h
  omega
theorem sign_low {r : Int} (h : 0 ≤ signV r) : 48 ≤ r ∧ r ≤ 102 := by unfold signV at h; split at h <;> (try split at h) <;> omega
def Hexs (s : ByteArray) (k : Nat) : Prop := ∀ i (h : i < s.size), i < k → hexB s[i] = true
theorem hexs_succ {s : ByteArray} {k : Nat} (h : Hexs s k) (hk : k < s.size) (hd : hexB s[k] = true) : Hexs s (k + 1) := by
  intro i hi hik
  by_cases e : i = k
  · subst e; exact hd
  · exact h i hi (by omega)
theorem decode_hex (s : ByteArray) (k : Nat) (h : k < s.size) (hd : hexB s[k] = true) : Utf8.decode s k = (s[k].toNat, 1) := by
  refine decode_ascii s k h ?_
  have := sign_low (of_decide_eq_true hd)
  omega
theorem decode_nohex (s : ByteArray) (k : Nat) (h : k < s.size) (hd : hexB s[k] = false) : signV (Utf8.decode s k).1 < 0 := by
  by_cases ha : s[k].toNat < 128
  · rw [decode_ascii s k h ha]
    have := of_decide_eq_false hd
    simp only
    omega
  · have h1 := (decode_high s k h (by omega)).1
    by_cases h2 : 0 ≤ signV (Utf8.decode s k).1
    · have := sign_low h2
      omega
    · omega
theorem hexR_bad (s : ByteArray) (i : Nat) (h : i < s.size) (hd : hexB s[i] = false) : hexR s.data.toList = ([], 3) := by
  unfold hexR
  rw [if_pos]
  rw [List.all_eq_false]
  exact ⟨s[i], (by rw [Array.mem_toList_iff]; exact Array.getElem_mem (by simpa using h)), by simp [hd]⟩
theorem hexs_all {s : ByteArray} (h : Hexs s s.size) : s.data.toList.all hexB = true := by
  rw [List.all_eq_true]
  intro x hx
  obtain ⟨i, hi, rfl⟩ := List.getElem_of_mem hx
  exact h i (by simpa using hi) (by simpa using hi)
theorem hexR_odd {s : ByteArray} (h : Hexs s s.size) (ho : s.size % 2 = 1) : hexR s.data.toList = ([], 4) := by
  unfold hexR
  rw [if_neg (by rw [hexs_all h]; simp), if_pos (by rw [Array.length_toList]; exact ho)]
theorem hexR_even {s : ByteArray} (h : Hexs s s.size) (ho : s.size % 2 = 0) : hexR s.data.toList = (hexP s.data.toList, 0) := by
  unfold hexR
  rw [if_neg (by rw [hexs_all h]; simp), if_neg (by rw [Array.length_toList]; show ¬ s.size % 2 = 1; omega)]
theorem hexP_append : ∀ (l m : List UInt8), l.length % 2 = 0 → hexP (l ++ m) = hexP l ++ hexP m
  | [], m, _ => rfl
  | [a], m, h => by simp at h
  | a :: b :: r, m, h => by
    simp only [List.cons_append, hexP]
    rw [hexP_append r m (by simp at h; omega)]
theorem hexP_take (s : ByteArray) (j : Nat) (h : 2 * j + 1 < s.size) : hexP (s.data.toList.take (2 * (j + 1))) = hexP (s.data.toList.take (2 * j)) ++ [UInt8.ofNat (16 * nib s[2 * j] + nib s[2 * j + 1])] := by
  have hl : s.data.toList.length = s.size := rfl
  have e : s.data.toList.take (2 * (j + 1)) = s.data.toList.take (2 * j) ++ [s[2 * j], s[2 * j + 1]] := by
    rw [show 2 * (j + 1) = 2 * j + 1 + 1 by omega, List.take_succ_eq_append_getElem (by omega), List.take_succ_eq_append_getElem (by omega), List.append_assoc]
    rfl
  rw [e, hexP_append _ _ (by rw [List.length_take]; omega)]
  rfl
/-- Handed back: bytes in a slice of the call's own, and a code. -/
def BytsPost (r : List UInt8 × Nat) (w : World) (e : Ending) (w' : World) : Prop :=
  ∃ v, e = .returned (.tuple #[v, .int .i64 r.2]) ∧ Only [] w w' ∧ ∀ N : List Nat, (∀ x ∈ N, x < w.heap.size) → Rd w' N v (ints .u8 (byts r.1))
theorem byts_nil {r : List UInt8 × Nat} {c : Nat} {w w' : World} (h : r = ([], c)) (ho : Only [] w w') : BytsPost r w (.returned (.tuple #[.slice none 0 0, .int .i64 c])) w' := by
  subst h; exact ⟨_, rfl, ho, fun N _ => Rd.nil w' N⟩
end
section
open Go.RowKit Go.Deep

theorem ofInt_i64 (a : Nat) (ha : a < 9223372036854775808) : (BitVec.ofInt 64 (a : Int)).toNat = a := by
  rw [BitVec.ofInt_natCast, BitVec.toNat_ofNat]; exact Nat.mod_eq_of_lt (by omega)
theorem i64_or_nat (a b : Nat) (ha : a < 9223372036854775808) (hb : b < 9223372036854775808) : bits .or .i64 (a : Int) (b : Int) = ((a ||| b : Nat) : Int) := by
  have hx : a ||| b < 2 ^ 63 := Nat.or_lt_two_pow (by omega) (by omega)
  show IntKind.i64.wrap ((BitVec.ofInt 64 (a : Int) ||| BitVec.ofInt 64 (b : Int)).toNat : Int) = _
  rw [BitVec.toNat_or, ofInt_i64 a ha, ofInt_i64 b hb, IntKind.wrap_i64]
  omega
theorem or_nib (x y : Nat) (hx : x < 16) (hy : y < 16) : bits .or .i64 ((x : Int) * 16) (y : Int) = ((16 * x + y : Nat) : Int) := by
  have h := i64_or_nat (16 * x) y (by omega) (by omega)
  have e : 16 * x ||| y = 16 * x + y := (Nat.two_pow_add_eq_or_of_lt (i := 4) hy x).symm
  rw [e] at h
  rw [← h, show ((16 * x : Nat) : Int) = (x : Int) * 16 by omega]
theorem ints_snoc_list (k : IntKind) (l m : List Int) : ints k l ++ ints k m = ints k (l ++ m) := by simp [ints]
theorem byts_some {r : List UInt8 × Nat} {l : List UInt8} {c : Nat} {v : Value} {w w' : World} (h : r = (l, c)) (ho : Only [] w w') (hr : ∀ N : List Nat, (∀ x ∈ N, x < w.heap.size) → Rd w' N v (ints .u8 (byts l))) : BytsPost r w (.returned (.tuple #[v, .int .i64 c])) w' := by
  subst h; exact ⟨_, rfl, ho, hr⟩
theorem rd_whole {w' : World} {B e j : Nat} {v : Value} {s : ByteArray} (h : w'.ownsRow B e 1 v j (ints .u8 (byts (hexP (s.data.toList.take s.size))))) : ∀ N : List Nat, (∀ x ∈ N, x < B) → Rd w' N v (ints .u8 (byts (hexP s.data.toList))) := by
  intro N hN
  have h1 := (Rd.of_own h hN).1
  rwa [show s.data.toList.take s.size = s.data.toList from List.take_of_length_le (Nat.le_of_eq rfl)] at h1
theorem one_hex {v : Value} {w' : World} {B e j k : Nat} {s : ByteArray} {z : Nat} (h : w'.ownsRow B e 1 v (j + 1) (ints .u8 (byts (hexP (s.data.toList.take k))) ++ [.int .u8 (z : Int)])) (hk : k = 2 * j) (hlt : k + 1 < s.size)
    (hz : z = 16 * nib s[k] + nib s[k + 1]) : w'.ownsRow B e 1 v (j + 1) (ints .u8 (byts (hexP (s.data.toList.take (k + 2))))) := by
  subst hk
  have e := hexP_take s j (by omega)
  rw [show 2 * (j + 1) = 2 * j + 2 by omega] at e
  rw [e, byts_append, ← ints_snoc_list]
  have hb : byts [UInt8.ofNat (16 * nib s[2 * j] + nib s[2 * j + 1])] = [(z : Int)] := by
    unfold byts
    simp only [List.map_cons, List.map_nil, UInt8.toNat_ofNat']
    have h1 := nib_lt s[2 * j]
    have h2 := nib_lt s[2 * j + 1]
    rw [← hz, Nat.mod_eq_of_lt (by omega)]
  rw [hb]
  exact h

set_option maxRecDepth 100000 in
set_option maxHeartbeats 6400000 in
theorem num_readhex (w : World) (s : ByteArray) (hs : s.size ≤ 1000000) :
    Calls Tryz.prog 145 #[.string s] w (BytsPost (hexR s.data.toList) w) := by
  obtain ⟨i0, hi, hz0, hz1, hz2⟩ := info_parts (show (Tryz.prog.info? 5).map (fun i => (i.zero, i.size, i.bytes)) = some (some (.int .u8 0), 1, 1) by kernel_rfl)
  go_enter Tryz.func145, Tryz.ntmps145
  go_wp2_with fail
  go_loopg [5] s.size (fun gk r wr => ∃ k : Nat, k ≤ s.size ∧ gk + k = s.size ∧ Hid (Hexs s k) ∧ wr = w.iter s k)
  case atStart => exact ⟨0, Nat.zero_le _, by omega, hide (fun i _ h => by omega), rfl⟩
  case round =>
    obtain ⟨k, hk, hgk, hdg, rfl⟩ := hrel
    have HG := hide hgk
    clear hgk
    by_cases hlt : k < s.size
    · have hnx : ∀ ty, (Instr.next (.pointer (some ⟨w.heap.size, 0, none⟩)) true ty).run Tryz.prog (w.iter s k) = _ := fun ty => run_next_any w s k ty hlt
      cases hd : hexB s[k] with
      | true =>
        rw [decode_hex s k hlt hd] at hnx
        have hge : ¬ signV (s[k].toNat : Int) < 0 := by have := of_decide_eq_true hd; omega
        have HS := hide (hexs_succ hdg.out hlt hd)
        clear hd
        go_wp2_with (go_at_call 167; refine (sign_any _ _).mono ?_; rintro e w' ⟨rfl, rfl⟩)
        go_roundg (gk - 1)
        case rel => exact ⟨k + 1, by omega, by have := HG.out; omega, HS, rfl⟩
        case measure => have := HG.out; omega
      | false =>
        have hb := decode_nohex s k hlt hd
        have HR := hide (hexR_bad s k hlt hd)
        have hr := decode_le s k
        clear hd
        generalize Utf8.decode s k = d at *
        obtain ⟨r, n⟩ := d
        simp only at hb hr hnx
        go_wp2_with (go_at_call 167; refine (sign_any _ _).mono ?_; rintro e w' ⟨rfl, rfl⟩)
        go_ret2
        exact byts_nil HR.out (only_iter w s _)
    · obtain rfl : k = s.size := by omega
      have hnx : ∀ ty, (Instr.next (.pointer (some ⟨w.heap.size, 0, none⟩)) true ty).run Tryz.prog (w.iter s s.size) = _ := fun ty => run_next_end w s s.size ty hlt
      have HX := hide hdg.out
      by_cases hodd : s.size % 2 = 1
      · have HR := hide (hexR_odd hdg.out hodd)
        have ho2 : (((s.size : Int) % 2) != 0) = true := by rw [bne_iff_ne]; omega
        clear hodd
        go_wp2_with fail
        go_ret2
        exact byts_nil HR.out (only_iter w s _)
      · have HR := hide (hexR_even hdg.out (by omega))
        have ho2 : (((s.size : Int) % 2) != 0) = false := by rw [bne_eq_false_iff_eq]; omega
        have HEV := hide (show s.size % 2 = 0 by omega)
        obtain ⟨m, hm⟩ : ∃ m, s.size = 2 * m := ⟨s.size / 2, by omega⟩
        have hm2 : (s.size : Int) / 2 = (m : Int) := by omega
        have hmk : ∀ W, (Instr.makeSlice 55 (.int .i64 0) (.int .i64 ((s.size : Int) / 2))).run Tryz.prog W = .ok (.slice (some ⟨W.heap.size, 0, none⟩) 0 m) (W.alloc (.cells (Array.replicate m (.int .u8 0)) 5)) := by
          intro W
          rw [hm2]
          exact run_make_row W 55 5 i0 _ Tryz.underlying55 hi hz0 hz1 rfl .i64 .i64 0 m (Nat.zero_le _) (by rw [hz2]; omega) (by omega)
        have HM := hide hm
        have HOW := hide (World.ownsRow_made (base := w.heap.size) (w.iter s s.size) (Array.replicate m (.int .u8 0)) m (by simp [World.iter]) (by unfold maxLen; omega) (e := 5) (size := 1) (by simp))
        have HO := hide ((only_iter w s s.size).alloc (.cells (Array.replicate m (.int .u8 0)) 5))
        clear hodd hm hm2
        go_wp2_with fail
        obtain ⟨w0, hw0⟩ : ∃ w0, w0 = (w.iter s s.size).alloc (.cells (Array.replicate m (.int .u8 0)) 5) := ⟨_, rfl⟩
        rw [← hw0] at HOW HO ⊢
        have hsz : w.heap.size ≤ w0.heap.size := HO.out.size
        clear hw0 hmk ho2
        go_loopw [6, 7] (fun v i wr => ∃ j k : Nat, k ≤ s.size ∧ Hid (k = 2 * j) ∧ i = .int .i64 k ∧ Hid (wr.ownsRow w.heap.size 5 1 v j (ints .u8 (byts (hexP (s.data.toList.take k))))) ∧ Hid (Only [] w wr)) (fun _ i _ => s.size - (intOf i).toNat)
        case atStart => exact ⟨0, 0, Nat.zero_le _, hide rfl, rfl, HOW, HO⟩
        case round =>
          obtain ⟨j, k, hk, hkj, rfl, how, ho⟩ := hrel
          by_cases hlt : k < s.size
          · have hlt1 : k + 1 < s.size := by have := hkj.out; have := HM.out; omega
            have hltI : (k : Int) < s.size := by omega
            have hlt1I : (k : Int) + 1 < s.size := by omega
            have hw1 : IntKind.i64.wrap ((k : Int) + 1) = (k : Int) + 1 := IntWalk.i64_in _ (by omega)
            have h0 : (0 : Int) ≤ (k : Int) + 1 := by omega
            have ht : ((k : Int) + 1).toNat = k + 1 := by omega
            have hx := sign_nib (HX.out k hlt hlt)
            have hy := sign_nib (HX.out (k + 1) hlt1 hlt1)
            obtain ⟨x, hxx⟩ : ∃ x, x = nib s[k] := ⟨_, rfl⟩
            obtain ⟨y, hyy⟩ : ∃ y, y = nib s[k + 1] := ⟨_, rfl⟩
            obtain ⟨z, hzz⟩ : ∃ z, z = 16 * x + y := ⟨_, rfl⟩
            have hx16 : x < 16 := by rw [hxx]; exact nib_lt _
            have hy16 : y < 16 := by rw [hyy]; exact nib_lt _
            have hor := or_nib x y hx16 hy16
            rw [← hzz] at hor
            have HZ := hide (show z = 16 * nib s[k] + nib s[k + 1] by rw [hzz, hxx, hyy])
            rw [← hxx] at hx
            rw [← hyy] at hy
            have hb1 := byte_lt s[k]
            have hb2 := byte_lt s[k + 1]
            have hwa : IntKind.i32.wrap (s[k].toNat : Int) = s[k].toNat := by rw [IntKind.wrap_i32]; omega
            have hwb : IntKind.i32.wrap (s[k + 1].toNat : Int) = s[k + 1].toNat := by rw [IntKind.wrap_i32]; omega
            have hws : IntKind.i64.wrap ((x : Int) * 16) = (x : Int) * 16 := IntWalk.i64_in _ (by omega)
            have hwu : IntKind.u8.wrap (z : Int) = (z : Int) := by rw [IntKind.wrap_u8]; omega
            obtain ⟨Av, cv, rfl, hjc, hcm⟩ := own_form how.out
            have hj : j < 1000000 := by have := hkj.out; omega
            clear hxx hyy hzz hb1 hb2
            have HOW2 := hide (World.ownsRow.alloc (own_only how.out ((Only.refl [] wr).drew) (by simp)) (.cells #[.int .u8 (z : Int)] 5))
            have HO2 := hide (ho.out.drew.alloc (.cells #[.int .u8 (z : Int)] 5))
            have HRN := hide (reads_one wr.drew 5 (.int .u8 (z : Int)) (wr.heap.size + 1) (Nat.lt_succ_self _))
            have HSZ := hide ho.out.size
            go_upto_region 12 with (fail)
            go_region_held3 (fun _ => True) (exact trivial)
              (first
              | (go_at_call 167; refine (sign_any _ _).mono ?_; rintro e w' ⟨rfl, rfl⟩)
              | (refine step_append_any _ rfl (.tmp 30) (.tmp 45) 55 rfl w.heap.size 5 i0 (.int .u8 0) 1 1 Tryz.underlying55 hi hz0 hz1 hz2 rfl (by decide) _ j _ rfl HOW2.out _ _ 1 1 [.int .u8 (z : Int)] rfl HRN.out (by simp [Value.oneCell']) (by unfold maxLen; omega) (by omega) (by have := HSZ.out; simp; omega) ?_; intro v1 w3 hown1 hg1 _; have HOW3 := hide (one_hex hown1 hkj.out hlt1 HZ.out); have HO3 := hide (HO2.out.grown hg1 (fun j hj => .inr (own_block_ge HOW2.out hj))); clear hown1 hg1))
            all_goals
              go_wp2_with fail
              go_roundw
              case rel => exact ⟨j + 1, k + 2, by omega, hide (by have := hkj.out; omega), by go_num, HOW3, HO3⟩
              case measure => simp [intOf]; omega
          · obtain rfl : k = s.size := by omega
            have hge : ¬ (s.size : Int) < s.size := by omega
            have HRD := hide (rd_whole how.out)
            go_wp2_with fail
            go_ret2
            exact byts_some HR.out ho.out HRD.out
end
section
open Go.RowKit Go.Deep

/-- The number of a kind that a word tells. -/
def numK (k : Int) (l : List UInt8) : Option Nat := if (numR l).2 = 0 ∧ allowedV k (numR l).1 = true then some (numR l).1 else none
def gtB (a b : ByteArray) : Bool := !(Op.bytesLess a.toList b.toList || a.toList == b.toList)
/-- A term that was read: kind, number, bytes, parts. -/
abbrev Nd := Int × Nat × List UInt8 × List ByteArray
def rdEnd (s : ByteArray) (k : Int) (n : Nat) (parts : List ByteArray) (p : Nat) : Option (Nd × Nat) :=
  if peekV s p 41 = true then (if fitsV k parts.length = true then some ((k, n, [], parts), p + 1) else none) else none
/-- Read from p on: a term (none), or the parts of a term, some of which are read (some). -/
def rd (s : ByteArray) : Nat → Option (Int × Nat × List ByteArray) → Nat → Option (Nd × Nat)
  | 0, _, _ => none
  | f + 1, none, p =>
    if h : p < s.size then
      if kindV s[p].toNat = 0 then none
      else if kindV s[p].toNat = 1 then some ((1, 0, [], []), p + 1)
      else if kindV s[p].toNat = 2 ∨ kindV s[p].toNat = 3 then
        match numK (kindV s[p].toNat) (s.extract (p + 1) (wend s (p + 1))).data.toList with
        | none => none
        | some n => some ((kindV s[p].toNat, n, [], []), wend s (p + 1))
      else if kindV s[p].toNat = 4 then
        if (hexR (s.extract (p + 1) (wend s (p + 1))).data.toList).2 = 0 then some ((4, 0, (hexR (s.extract (p + 1) (wend s (p + 1))).data.toList).1, []), wend s (p + 1)) else none
      else if peekV s (p + 1) 40 = false then none
      else if numberedV (kindV s[p].toNat) = true then
        match numK (kindV s[p].toNat) (s.extract (p + 2) (wend s (p + 2))).data.toList with
        | none => none
        | some n =>
          if peekV s (wend s (p + 2)) 44 = false then none
          else if peekV s (wend s (p + 2) + 1) 41 = true then rdEnd s (kindV s[p].toNat) n [] (wend s (p + 2) + 1)
          else rd s f (some (kindV s[p].toNat, n, [])) (wend s (p + 2) + 1)
      else if peekV s (p + 2) 41 = true then rdEnd s (kindV s[p].toNat) 0 [] (p + 2)
      else rd s f (some (kindV s[p].toNat, 0, [])) (p + 2)
    else none
  | f + 1, some (k, n, parts), p =>
    match rd s f none p with
    | none => none
    | some (_, q) =>
      if k = 6 ∧ parts.length = 1 ∧ gtB (parts.getLastD ByteArray.empty) (s.extract p q) = true then none
      else if peekV s q 44 = true then rd s f (some (k, n, parts ++ [s.extract p q])) (q + 1)
      else rdEnd s k n (parts ++ [s.extract p q]) q

def NumberPost (g : Nat) (s : ByteArray) (p : Nat) (r : Option Nat) (w : World) (e : Ending) (w' : World) : Prop :=
  match r with
  | none => Fault [g] w e w'
  | some n => e = .returned (.int .u64 n) ∧ At g s (wend s p) w' ∧ Only [g] w w' ∧ n < 18446744073709551616
theorem number_no {g : Nat} {s : ByteArray} {p : Nat} {r : Option Nat} {w w' : World} (h : r = none) (ho : Only [g] w w') : NumberPost g s p r w (.panicked [{ v := .iface 183 (.agg #[]), recovered := false }]) w' := by
  subst h; exact ⟨rfl, ho⟩
theorem number_yes {g : Nat} {s : ByteArray} {p n : Nat} {r : Option Nat} {w w' : World} (h : r = some n) (hb : At g s (wend s p) w') (ho : Only [g] w w') (hn : n < 18446744073709551616) : NumberPost g s p r w (.returned (.int .u64 n)) w' := by
  subst h; exact ⟨rfl, hb, ho, hn⟩
theorem extract_size (s : ByteArray) (p q : Nat) : (s.extract p q).size ≤ s.size := by
  rw [ByteArray.size_extract]; omega

set_option maxRecDepth 100000 in
set_option maxHeartbeats 1600000 in
theorem number_any (w : World) (g : Nat) (s : ByteArray) (p : Nat) (k : Int) (hb : At g s p w) (hp : p ≤ s.size) (hs : s.size ≤ 1000000) :
    Calls Tryz.prog 144 #[.pointer (some ⟨g, 0, none⟩), .int .i64 k] w (NumberPost g s p (numK k (s.extract p (wend s p)).data.toList) w) := by
  have HW := hide (word_any w g s p hb hp (by unfold maxLen; omega))
  have hx := extract_size s p (wend s p)
  generalize hq : wend s p = q at *
  have HQ := hide hq
  clear hq
  generalize ht : s.extract p q = t at *
  have HT := hide ht
  clear ht hb
  have HN := hide (fun W => num_read W t)
  have HA := hide (fun W n => allowed_any k n W)
  have hr := numR_lt t.data.toList
  have HK := hide (show numK k t.data.toList = if (numR t.data.toList).2 = 0 ∧ allowedV k (numR t.data.toList).1 = true then some (numR t.data.toList).1 else none from rfl)
  generalize numR t.data.toList = r at *
  obtain ⟨u, c⟩ := r
  simp only at hr HK
  cases hc : ((c : Int) != 0) with
  | true =>
    have HR := hide (show numK k t.data.toList = none by rw [HK.out, if_neg]; rintro ⟨a, _⟩; subst a; simp at hc)
    go_enter Tryz.func144, Tryz.ntmps144
    go_wp2_with (first
      | (go_at_call 146; refine HW.out.mono ?_; rintro e w1 ⟨rfl, hb1, ho1⟩; rw [HQ.out, HT.out]; have HO1 := hide ho1; clear hb1 ho1)
      | (go_at_call 166; refine (HN.out _ (by omega)).mono ?_; rintro e w2 ⟨rfl, ho2⟩; have HO2 := hide (HO1.out.trans (ho2.mono (by simp))); clear ho2))
    exact ⟨rfl, number_no HR.out HO2.out⟩
  | false =>
    have hc0 : c = 0 := by simpa using hc
    cases ha : allowedV k u with
    | false =>
      have HR := hide (show numK k t.data.toList = none by rw [HK.out, if_neg]; rintro ⟨_, a⟩; rw [ha] at a; cases a)
      have HAL := hide ha
      have HC0 := hide hc0
      clear ha hc0
      go_enter Tryz.func144, Tryz.ntmps144
      go_wp2_with (first
        | (go_at_call 146; refine HW.out.mono ?_; rintro e w1 ⟨rfl, hb1, ho1⟩; rw [HQ.out, HT.out]; have HO1 := hide ho1; clear hb1 ho1)
        | (go_at_call 166; refine (HN.out _ (by omega)).mono ?_; rintro e w2 ⟨rfl, ho2⟩; have HO2 := hide (HO1.out.trans (ho2.mono (by simp))); clear ho2)
        | (go_at_call 112; refine (HA.out _ _).mono ?_; rintro e w3 ⟨rfl, rfl⟩; rw [HAL.out]))
      exact ⟨rfl, number_no HR.out HO2.out⟩
    | true =>
      have HR := hide (show numK k t.data.toList = some u by rw [HK.out, if_pos ⟨hc0, ha⟩])
      have HAL := hide ha
      have HC0 := hide hc0
      have HU := hide hr
      clear ha hc0 hr
      go_enter Tryz.func144, Tryz.ntmps144
      go_wp2_with (first
        | (go_at_call 146; refine HW.out.mono ?_; rintro e w1 ⟨rfl, hb1, ho1⟩; rw [HQ.out, HT.out]; have HO1 := hide ho1; have HB1 := hide hb1; clear hb1 ho1)
        | (go_at_call 166; refine (HN.out _ (by omega)).mono ?_; rintro e w2 ⟨rfl, ho2⟩; have HO2 := hide (HO1.out.trans (ho2.mono (by simp))); have HB2 := hide (show At g s q w2 from by have h := HB1.out; rw [HQ.out] at h; exact Blk.only h ho2 (by simp)); clear ho2)
        | (go_at_call 112; refine (HA.out _ _).mono ?_; rintro e w3 ⟨rfl, rfl⟩; rw [HAL.out]))
      go_ret
      exact number_yes HR.out (by rw [HQ.out]; exact HB2.out) HO2.out HU.out
end
end Go.Proofs.YtfipdjlalfpbnaaGreatDoor

/-
  Walks and plain words (texts Tw, Ag, La, Lm, Ws0, Wh). No condition beyond those that each theorem states.
-/
import Derived.Test.YtfipdjlalfpbnaaGreatDoorChecked
import Derived.StillTailTactics
import Derived.Test.YtfipdjlalfpbnaaGreatDoorM01
import Derived.Test.YtfipdjlalfpbnaaGreatDoorM06
import Derived.Test.YtfipdjlalfpbnaaGreatDoorM11
import Derived.Test.YtfipdjlalfpbnaaGreatDoorM20
import Derived.Test.YtfipdjlalfpbnaaGreatDoorM24
namespace Go.Proofs.YtfipdjlalfpbnaaGreatDoor
section
open Go.RowKit Go.Deep

theorem three_of {k : Int} {parts : List ByteArray} (hk : k = 10) (hm : fitsV k parts.length = true) : ∃ a b c, parts = [a, b, c] := by
  subst hk
  have hl : parts.length = 3 := by
    simp only [fitsV, leastV, mostV] at hm
    simp at hm
    omega
  match parts, hl with
  | [a, b, c], _ => exact ⟨a, b, c, rfl⟩
theorem open_is {t key v : ByteArray} {n m : Nat} {bs : List UInt8} {p0 p1 p2 : ByteArray} (hp : parseV t = some (10, m, bs, [p0, p1, p2])) :
    openT t key n v = if (eqB p0 key && decide (m = n) && eqB p2 v) = true then (p1, 0) else (ByteArray.empty, 8) := by
  unfold openT
  rw [hp]
  simp only
  rw [if_neg (by decide)]
  by_cases h : p0 = key ∧ m = n ∧ p2 = v
  · obtain ⟨rfl, rfl, rfl⟩ := h
    rw [if_pos ⟨rfl, rfl, rfl⟩, (eqB_iff p0 p0).2 rfl, (eqB_iff p2 p2).2 rfl, decide_eq_true rfl]
    rfl
  · rw [if_neg (show ¬ ([p0, p1, p2].getD 0 ByteArray.empty = key ∧ m = n ∧ [p0, p1, p2].getD 2 ByteArray.empty = v) from h), if_neg]
    intro h2
    simp only [Bool.and_eq_true, decide_eq_true_eq] at h2
    exact h ⟨(eqB_iff _ _).1 h2.1.1, h2.1.2, (eqB_iff _ _).1 h2.2⟩

set_option maxRecDepth 100000 in
set_option maxHeartbeats 6400000 in
theorem Open_any (w : World) (t key v : ByteArray) (n : Nat) (hs : t.size ≤ maxLen) : Calls Tryz.prog 63 #[.string t, .string key, .int .u64 n, .string v] w (OpenPost (openT t key n v) w) := by
  have HP := hide (parse_any w t hs)
  cases hp : parseV t with
  | none =>
    rw [hp] at HP
    have HV := hide (show openT t key n v = (ByteArray.empty, 3) by unfold openT; rw [hp])
    clear hp
    go_enter Tryz.func63, Tryz.ntmps63
    go_wp2_with (go_at_call 107; refine HP.out.mono ?_; rintro e w1 ⟨rfl, ho⟩; unfold nd0; have HO := hide ho; clear ho)
    go_ret2
    exact openpost HV.out (HO.out.alloc _)
  | some nd =>
    obtain ⟨k, m, bs, parts⟩ := nd
    have hm := (read_make hp).2.2.2.1
    by_cases hk : k = 10
    · obtain ⟨p0, p1, p2, rfl⟩ := three_of hk hm
      subst hk
      have HV := hide (open_is (key := key) (n := n) (v := v) hp)
      rw [hp] at HP
      clear hp hm
      unfold eqB at HV
      rcases Bool.eq_false_or_eq_true (p0.toList == key.toList) with e0 | e0
      all_goals
        rcases Bool.eq_false_or_eq_true (p2.toList == v.toList) with e2 | e2
        all_goals
          rcases Bool.eq_false_or_eq_true (decide (m = n)) with em | em
          all_goals
            rw [e0, e2, em] at HV
            simp only [Bool.and_true, Bool.and_false, if_true, if_false, Bool.false_eq_true] at HV
            have em2 : ((m : Int) != (n : Int)) = !decide (m = n) := by
              by_cases h : m = n
              · subst h; simp
              · rw [decide_eq_false h]; simp; omega
            rw [em] at em2
            simp only [Bool.not_true, Bool.not_false] at em2
            clear em
            go_enter Tryz.func63, Tryz.ntmps63
            go_wp2_with (go_at_call 107; refine HP.out.mono ?_; rintro e w1 ⟨bv, pv, rfl, ho, hb, hp⟩; obtain ⟨A, cap, rfl, _, _⟩ := (hb [] (by simp)).formb; obtain ⟨A2, cap2, rfl, _, _⟩ := (hp [] (by simp)).form; obtain ⟨g, o, rfl, _, hc⟩ := rd_strs ((hp [] (by simp)).only ((Only.refl [] _).alloc (.cells #[.int .i64 10, .int .u64 (m : Nat), .slice A bs.length cap, .slice A2 3 cap2] 145)) (by simp)) (by simp); have s0 := hc 0 (by simp); have s1 := hc 1 (by simp); have s2 := hc 2 (by simp); simp at s0 s1 s2; have HO := hide ho; clear ho hb hp hc; simp only [strs, List.map_cons, List.map_nil, List.length_cons, List.length_nil])
            go_ret2
            exact openpost HV.out (HO.out.alloc _)
    · have HV := hide (show openT t key n v = (ByteArray.empty, 3) by unfold openT; rw [hp]; simp only; rw [if_pos hk])
      rw [hp] at HP
      have hkb : (k != 10) = true := by rw [bne_iff_ne]; exact hk
      clear hp hk hm
      go_enter Tryz.func63, Tryz.ntmps63
      go_wp2_with (go_at_call 107; refine HP.out.mono ?_; rintro e w1 ⟨bv, pv, rfl, ho, hb, hp⟩; obtain ⟨A, cap, rfl, _, _⟩ := (hb [] (by simp)).formb; obtain ⟨A2, cap2, rfl, _, _⟩ := (hp [] (by simp)).form; have HO := hide ho; clear ho hb hp)
      go_ret2
      exact openpost HV.out (HO.out.alloc _)

set_option maxRecDepth 100000 in
set_option maxHeartbeats 6400000 in
theorem OpenR_any (w : World) (t key v : ByteArray) (n : Nat) (hs : t.size ≤ 1000000) : Calls Tryz.prog 65 #[.string t, .string key, .int .u64 n, .string v] w (OpenPost (openT t key n v) w) := by
  have HP := hide (readR_any w t hs)
  cases hp : parseV t with
  | none =>
    rw [hp] at HP
    unfold ReadRPost nd0 at HP
    simp only at HP
    have HV := hide (show openT t key n v = (ByteArray.empty, 3) by unfold openT; rw [hp])
    clear hp
    go_enter Tryz.func65, Tryz.ntmps65
    go_wp2_with (go_at_call 39; refine HP.out.mono ?_; rintro e w1 ⟨rfl, ho⟩; have HO := hide ho; clear ho)
    go_ret2
    exact openpost HV.out (HO.out.alloc _)
  | some nd =>
    obtain ⟨k, m, bs, parts⟩ := nd
    have hm := (read_make hp).2.2.2.1
    by_cases hk : k = 10
    · obtain ⟨p0, p1, p2, rfl⟩ := three_of hk hm
      subst hk
      have HV := hide (open_is (key := key) (n := n) (v := v) hp)
      rw [hp] at HP
      unfold ReadRPost at HP
      simp only at HP
      clear hp hm
      unfold eqB at HV
      rcases Bool.eq_false_or_eq_true (p0.toList == key.toList) with e0 | e0
      all_goals
        rcases Bool.eq_false_or_eq_true (p2.toList == v.toList) with e2 | e2
        all_goals
          rcases Bool.eq_false_or_eq_true (decide (m = n)) with em | em
          all_goals
            rw [e0, e2, em] at HV
            simp only [Bool.and_true, Bool.and_false, if_true, if_false, Bool.false_eq_true] at HV
            have em2 : ((m : Int) != (n : Int)) = !decide (m = n) := by
              by_cases h : m = n
              · subst h; simp
              · rw [decide_eq_false h]; simp; omega
            rw [em] at em2
            simp only [Bool.not_true, Bool.not_false] at em2
            clear em
            go_enter Tryz.func65, Tryz.ntmps65
            go_wp2_with (go_at_call 39; refine HP.out.mono ?_; rintro e w1 ⟨bv, pv, rfl, ho, hb, hp⟩; obtain ⟨A, cap, rfl, _, _⟩ := (hb [] (by simp)).formb; obtain ⟨A2, cap2, rfl, _, _⟩ := (hp [] (by simp)).form; obtain ⟨g, o, rfl, _, hc⟩ := rd_strs ((hp [] (by simp)).only ((Only.refl [] _).alloc (.cells #[.int .i64 10, .int .u64 (m : Nat), .slice A bs.length cap, .slice A2 3 cap2] 77)) (by simp)) (by simp); have s0 := hc 0 (by simp); have s1 := hc 1 (by simp); have s2 := hc 2 (by simp); simp at s0 s1 s2; have HO := hide ho; clear ho hb hp hc; simp only [strs, List.map_cons, List.map_nil, List.length_cons, List.length_nil])
            go_ret2
            exact openpost HV.out (HO.out.alloc _)
    · have HV := hide (show openT t key n v = (ByteArray.empty, 3) by unfold openT; rw [hp]; simp only; rw [if_pos hk])
      rw [hp] at HP
      unfold ReadRPost at HP
      simp only at HP
      have hkb : (k != 10) = true := by rw [bne_iff_ne]; exact hk
      clear hp hk hm
      go_enter Tryz.func65, Tryz.ntmps65
      go_wp2_with (go_at_call 39; refine HP.out.mono ?_; rintro e w1 ⟨bv, pv, rfl, ho, hb, hp⟩; obtain ⟨A, cap, rfl, _, _⟩ := (hb [] (by simp)).formb; obtain ⟨A2, cap2, rfl, _, _⟩ := (hp [] (by simp)).form; have HO := hide ho; clear ho hb hp)
      go_ret2
      exact openpost HV.out (HO.out.alloc _)
end
section
open Go.RowKit Go.Deep

section calls
variable (w : World) (htab : Tab w)
include htab
theorem make_new2 (G : Nat) (hG : G = w.heap.size) (k : Int) (hk : (Lit.int .i64 k).wf = true) (n : Nat) (hn : n < 18446744073709551616) (x y : ByteArray) (hx : x.size ≤ maxLen) (hy : y.size ≤ maxLen) :
    Calls Tryz.prog 66 #[.int .i64 k, .int .u64 n, .slice none 0 0, .slice (some ⟨G, 0, none⟩) 2 2] (w.alloc (.cells #[.string x, .string y] 9)) (MakePost (makeV k n [] [x, y]) w) := by
  subst hG
  exact (Make_any k hk n hn _ _ [] [x, y] (fun p hp => by simp at hp; rcases hp with rfl | rfl <;> assumption) (w.alloc (.cells #[.string x, .string y] 9)) (Rd.nil _ _) (rd_new w 9 [] (strs [x, y]) (by simp) (by unfold maxLen; simp [strs])) (htab.only ((Only.refl [] w).alloc _) (by simp))).mono fun e w' h => ⟨h.1, ((Only.refl [] w).alloc _).trans h.2⟩
end calls
theorem makeR_new2 (w : World) (G : Nat) (hG : G = w.heap.size) (k : Int) (n : Nat) (hn : n < 18446744073709551616) (x y : ByteArray) (hx : x.size ≤ maxLen) (hy : y.size ≤ maxLen) :
    Calls Tryz.prog 101 #[.int .i64 k, .int .u64 n, .slice none 0 0, .slice (some ⟨G, 0, none⟩) 2 2] (w.alloc (.cells #[.string x, .string y] 9)) (MakePost (makeV k n [] [x, y]) w) := by
  subst hG
  exact (MakeR_any k n hn _ _ [] (by simp) [x, y] (by simp) (fun p hp => by simp at hp; rcases hp with rfl | rfl <;> assumption) (w.alloc (.cells #[.string x, .string y] 9)) (Rd.nil _ _) (rd_new w 9 [] (strs [x, y]) (by simp) (by unfold maxLen; simp [strs]))).mono fun e w' h => ⟨h.1, ((Only.refl [] w).alloc _).trans h.2⟩
theorem makeR_new3 (w : World) (G : Nat) (hG : G = w.heap.size) (k : Int) (n : Nat) (hn : n < 18446744073709551616) (x y z : ByteArray) (hx : x.size ≤ maxLen) (hy : y.size ≤ maxLen) (hz : z.size ≤ maxLen) :
    Calls Tryz.prog 101 #[.int .i64 k, .int .u64 n, .slice none 0 0, .slice (some ⟨G, 0, none⟩) 3 3] (w.alloc (.cells #[.string x, .string y, .string z] 9)) (MakePost (makeV k n [] [x, y, z]) w) := by
  subst hG
  exact (MakeR_any k n hn _ _ [] (by simp) [x, y, z] (by simp) (fun p hp => by simp at hp; rcases hp with rfl | rfl | rfl <;> assumption) (w.alloc (.cells #[.string x, .string y, .string z] 9)) (Rd.nil _ _) (rd_new w 9 [] (strs [x, y, z]) (by simp) (by unfold maxLen; simp [strs]))).mono fun e w' h => ⟨h.1, ((Only.refl [] w).alloc _).trans h.2⟩

set_option maxRecDepth 100000 in
set_option maxHeartbeats 1600000 in
theorem SealR_any (w : World) (n : Nat) (hn : n < 18446744073709551616) (x y z : ByteArray) (hx : x.size ≤ maxLen) (hy : y.size ≤ maxLen) (hz : z.size ≤ maxLen) : Calls Tryz.prog 68 #[.int .u64 n, .string x, .string y, .string z] w (MakePost (makeV 10 n [] [x, y, z]) w) := by
  have HN := hide hn
  clear hn
  go_enter Tryz.func68, Tryz.ntmps68
  go_wp2_with (go_at_call 101; refine (makeR_new3 _ _ rfl 10 n HN.out x y z hx hy hz).mono ?_; rintro e w2 ⟨rfl, ho⟩; have HO := hide ho; clear ho)
  go_ret
  exact makepost rfl HO.out
end
section
open Go.RowKit Go.Deep

/-- What a text is as a term: kind 0, if it is none. -/
def whatV (s : ByteArray) : Nd := (parseV s).getD (0, 0, [], [])
theorem what_kind (s : ByteArray) : kindT s = (whatV s).1 := by unfold kindT whatV; cases parseV s <;> rfl
theorem what_val (s : ByteArray) : valT s = ((whatV s).2.1, numberedV (whatV s).1) := by
  unfold valT whatV
  cases h : parseV s with
  | none => rfl
  | some nd =>
    obtain ⟨k, n, b, l⟩ := nd
    have hm := (read_make h).2.2.2.2.2.1
    simp only [Option.getD_some]
    cases hn : numberedV k with
    | true => rfl
    | false => rw [hm hn]; rfl
/-- The reference's Read, in that word. -/
theorem readR_what (w : World) (s : ByteArray) (hs : s.size ≤ maxLen) : Calls Tryz.prog 39 #[.string s] w fun e w' => ∃ bv pv, e = .returned (.agg #[.int .i64 (whatV s).1, .int .u64 ((whatV s).2.1 : Nat), bv, pv]) ∧ Only [] w w' ∧
      Rd w' [] bv (ints .u8 (byts (whatV s).2.2.1)) ∧ Rd w' [] pv (strs (whatV s).2.2.2) :=
  (readR_all w s hs).mono fun e w' h => by
    unfold ReadRPost at h
    unfold whatV
    cases hp : parseV s with
    | none =>
      rw [hp] at h
      exact ⟨_, _, h.1, h.2, Rd.nil _ _, Rd.nil _ _⟩
    | some nd =>
      rw [hp] at h
      obtain ⟨bv, pv, h1, h2, h3, h4⟩ := h
      exact ⟨bv, pv, h1, h2, h3 [] (by simp), h4 [] (by simp)⟩
theorem undrew {S : List Nat} {w w' : World} (h : Only S w.drew w') : Only S w w' := ⟨h.os, h.tape, h.output, h.size, h.block⟩
end
section
open Go.RowKit Go.Deep

theorem make_size {k : Int} {n : Nat} {b : List UInt8} {l : List ByteArray} (hn : n < 18446744073709551616) (h : makeV k n b l ≠ ByteArray.empty) : (makeV k n b l).size ≤ 65536 := parse_size (make_read hn h)
end
section
open Go.RowKit Go.Deep

/-- The text of a number. -/
noncomputable def numT (n : Nat) : ByteArray := makeV 3 n [] []
/-- What Mac1 signs. -/
noncomputable def bodyM (m : Mg) : ByteArray :=
  if rightM m = true ∧ m.k ≤ 2 then makeV 11 0 [] ([numT m.k.toNat, numT m.s, numT m.r] ++ (textsM m).take ((textsM m).length - 2)) else ByteArray.empty
/-- What Mac2 signs. -/
noncomputable def signedM (m : Mg) : ByteArray := if bodyM m = ByteArray.empty then ByteArray.empty else makeV 11 0 [] [bodyM m, m.x11]
theorem make_size' (k : Int) (n : Nat) (b : List UInt8) (l : List ByteArray) (hn : n < 18446744073709551616) : (makeV k n b l).size ≤ maxLen := by
  by_cases h : makeV k n b l = ByteArray.empty
  · rw [h]; exact Nat.zero_le _
  · exact Nat.le_trans (make_size hn h) (by unfold maxLen; omega)
set_option maxRecDepth 100000 in
set_option maxHeartbeats 12800000 in
theorem NumberR_any (w : World) (n : Nat) (hn : n < 18446744073709551616) : Calls Tryz.prog 67 #[.int .u64 n] w (MakePost (numT n) w) := by
  have HM := hide (fun W => MakeR_any 3 n hn (.slice none 0 0) (.slice none 0 0) [] (by simp) [] (by simp) (by simp) W (Rd.nil _ _) (Rd.nil _ _))
  unfold MakePost at HM
  clear hn
  go_enter Tryz.func67, Tryz.ntmps67
  go_wp2_with (go_at_call 101; refine (HM.out _).mono ?_; rintro e w2 ⟨rfl, ho⟩; have HO := hide ho; clear ho)
  go_ret
  exact makepost rfl HO.out

theorem MacR_any (w : World) (x y : ByteArray) (hx : x.size ≤ maxLen) (hy : y.size ≤ maxLen) : Calls Tryz.prog 58 #[.string x, .string y] w (MakePost (makeV 9 0 [] [x, y]) w) := by
  go_enter Tryz.func58, Tryz.ntmps58
  go_wp2_with (go_at_call 101; refine (makeR_new2 _ _ rfl 9 0 (by omega) x y hx hy).mono ?_; rintro e w2 ⟨rfl, ho⟩; have HO := hide ho; clear ho)
  go_ret
  exact makepost rfl HO.out

theorem ListR_any (w : World) (v : Value) (l : List ByteArray) (hl : l.length ≤ 1000) (hs : ∀ p ∈ l, p.size ≤ maxLen) (hv : Rd w [] v (strs l)) : Calls Tryz.prog 109 #[v] w (MakePost (makeV 11 0 [] l) w) := by
  have HM := hide (MakeR_any 11 0 (by omega) (.slice none 0 0) v [] (by simp) l hl hs w (Rd.nil _ _) hv)
  unfold MakePost at HM
  obtain ⟨A, cap, rfl, _, _⟩ := hv.form
  clear hv
  go_enter Tryz.func109, Tryz.ntmps109
  go_wp2_with (go_at_call 101; refine HM.out.mono ?_; rintro e w2 ⟨rfl, ho⟩; have HO := hide ho; clear ho)
  go_ret
  exact makepost rfl HO.out
end
section
open Go.RowKit Go.Deep

set_option maxRecDepth 100000 in
set_option maxHeartbeats 6400000 in
theorem With_1 (w : World) (s r c : Nat) (g o cap : Nat) (x0 x1 x2 x3 x4 : ByteArray) (_hc : 5 ≤ cap) (h0 : w.cell? ⟨g, o, none⟩ = some (.string x0)) (h1 : w.cell? ⟨g, o + 1, none⟩ = some (.string x1)) (h2 : w.cell? ⟨g, o + 2, none⟩ = some (.string x2)) (h3 : w.cell? ⟨g, o + 3, none⟩ = some (.string x3)) (h4 : w.cell? ⟨g, o + 4, none⟩ = some (.string x4)) :
    Calls Tryz.prog 47 #[.int .i64 1, .int .u32 (s : Nat), .int .u32 (r : Nat), .int .u64 (c : Nat), .slice (some ⟨g, o, none⟩) 5 cap] w fun e w' =>
      e = .returned (.agg #[.int .i64 1, .int .u32 (s : Nat), .int .u32 0, .int .u64 0, .string x0, .string x1, .string x2, .string ⟨#[]⟩, .string ⟨#[]⟩, .string ⟨#[]⟩, .string ⟨#[]⟩, .string x3, .string x4]) ∧ Only [] w w' := by
  have hg : g < w.heap.size := by have := World.block_lt_of_cell? w _ h0; simpa using this
  have HRB := hide (Blk.new w 25 #[.int .i64 0, .int .u32 0, .int .u32 0, .int .u64 0, .string ⟨#[]⟩, .string ⟨#[]⟩, .string ⟨#[]⟩, .string ⟨#[]⟩, .string ⟨#[]⟩, .string ⟨#[]⟩, .string ⟨#[]⟩, .string ⟨#[]⟩, .string ⟨#[]⟩])
  have HO := hide ((Only.refl [] w).alloc (.cells #[.int .i64 0, .int .u32 0, .int .u32 0, .int .u64 0, .string ⟨#[]⟩, .string ⟨#[]⟩, .string ⟨#[]⟩, .string ⟨#[]⟩, .string ⟨#[]⟩, .string ⟨#[]⟩, .string ⟨#[]⟩, .string ⟨#[]⟩, .string ⟨#[]⟩] 25))
  have d0 := (cell_only HO.out hg (by simp)).trans h0
  have d1 := (cell_only HO.out hg (by simp)).trans h1
  have d2 := (cell_only HO.out hg (by simp)).trans h2
  have d3 := (cell_only HO.out hg (by simp)).trans h3
  have d4 := (cell_only HO.out hg (by simp)).trans h4
  go_enter Tryz.func47, Tryz.ntmps47
  go_wp2_with fail
  generalize (w.alloc (.cells #[.int .i64 0, .int .u32 0, .int .u32 0, .int .u64 0, .string ⟨#[]⟩, .string ⟨#[]⟩, .string ⟨#[]⟩, .string ⟨#[]⟩, .string ⟨#[]⟩, .string ⟨#[]⟩, .string ⟨#[]⟩, .string ⟨#[]⟩, .string ⟨#[]⟩] 25)) = W at *
  have r0 := HRB.out.cell 0
  have r1 := HRB.out.cell 1
  have r2 := HRB.out.cell 2
  have r3 := HRB.out.cell 3
  have r4 := HRB.out.cell 4
  have r5 := HRB.out.cell 5
  have r6 := HRB.out.cell 6
  have r7 := HRB.out.cell 7
  have r8 := HRB.out.cell 8
  have r9 := HRB.out.cell 9
  have r10 := HRB.out.cell 10
  have r11 := HRB.out.cell 11
  have r12 := HRB.out.cell 12
  simp at r0 r1 r2 r3 r4 r5 r6 r7 r8 r9 r10 r11 r12
  have rf := HRB.out.frozen
  go_still_tail 17, (by kernel_rfl)
  change wpList _ _ _ _ _ W.drew
  go_wp2_with fail
  refine bodyPost_ret (results_cell_row rfl _ _ w.heap.size 25 _ (0, 0) _ rfl ((set13 HRB.out (.int .i64 1) (.int .u32 (s : Nat)) (.int .u32 0) (.int .u64 0) (.string x0) (.string x1) (.string x2) (.string ⟨#[]⟩) (.string ⟨#[]⟩) (.string ⟨#[]⟩) (.string ⟨#[]⟩) (.string x3) (.string x4)).drew) Tryz.underlying25 rfl (by kernel_rfl)) rfl ?_
  exact ⟨rfl, (only13 HO.out (.inr (Nat.le_refl _)) (.int .i64 1) (.int .u32 (s : Nat)) (.int .u32 0) (.int .u64 0) (.string x0) (.string x1) (.string x2) (.string ⟨#[]⟩) (.string ⟨#[]⟩) (.string ⟨#[]⟩) (.string ⟨#[]⟩) (.string x3) (.string x4)).drew⟩

set_option maxRecDepth 100000 in
set_option maxHeartbeats 6400000 in
theorem With_2 (w : World) (s r c : Nat) (g o cap : Nat) (x0 x1 x2 x3 : ByteArray) (_hc : 4 ≤ cap) (h0 : w.cell? ⟨g, o, none⟩ = some (.string x0)) (h1 : w.cell? ⟨g, o + 1, none⟩ = some (.string x1)) (h2 : w.cell? ⟨g, o + 2, none⟩ = some (.string x2)) (h3 : w.cell? ⟨g, o + 3, none⟩ = some (.string x3)) :
    Calls Tryz.prog 47 #[.int .i64 2, .int .u32 (s : Nat), .int .u32 (r : Nat), .int .u64 (c : Nat), .slice (some ⟨g, o, none⟩) 4 cap] w fun e w' =>
      e = .returned (.agg #[.int .i64 2, .int .u32 (s : Nat), .int .u32 (r : Nat), .int .u64 0, .string x0, .string ⟨#[]⟩, .string ⟨#[]⟩, .string x1, .string ⟨#[]⟩, .string ⟨#[]⟩, .string ⟨#[]⟩, .string x2, .string x3]) ∧ Only [] w w' := by
  have hg : g < w.heap.size := by have := World.block_lt_of_cell? w _ h0; simpa using this
  have HRB := hide (Blk.new w 25 #[.int .i64 0, .int .u32 0, .int .u32 0, .int .u64 0, .string ⟨#[]⟩, .string ⟨#[]⟩, .string ⟨#[]⟩, .string ⟨#[]⟩, .string ⟨#[]⟩, .string ⟨#[]⟩, .string ⟨#[]⟩, .string ⟨#[]⟩, .string ⟨#[]⟩])
  have HO := hide ((Only.refl [] w).alloc (.cells #[.int .i64 0, .int .u32 0, .int .u32 0, .int .u64 0, .string ⟨#[]⟩, .string ⟨#[]⟩, .string ⟨#[]⟩, .string ⟨#[]⟩, .string ⟨#[]⟩, .string ⟨#[]⟩, .string ⟨#[]⟩, .string ⟨#[]⟩, .string ⟨#[]⟩] 25))
  have d0 := (cell_only HO.out hg (by simp)).trans h0
  have d1 := (cell_only HO.out hg (by simp)).trans h1
  have d2 := (cell_only HO.out hg (by simp)).trans h2
  have d3 := (cell_only HO.out hg (by simp)).trans h3
  go_enter Tryz.func47, Tryz.ntmps47
  go_wp2_with fail
  generalize (w.alloc (.cells #[.int .i64 0, .int .u32 0, .int .u32 0, .int .u64 0, .string ⟨#[]⟩, .string ⟨#[]⟩, .string ⟨#[]⟩, .string ⟨#[]⟩, .string ⟨#[]⟩, .string ⟨#[]⟩, .string ⟨#[]⟩, .string ⟨#[]⟩, .string ⟨#[]⟩] 25)) = W at *
  have r0 := HRB.out.cell 0
  have r1 := HRB.out.cell 1
  have r2 := HRB.out.cell 2
  have r3 := HRB.out.cell 3
  have r4 := HRB.out.cell 4
  have r5 := HRB.out.cell 5
  have r6 := HRB.out.cell 6
  have r7 := HRB.out.cell 7
  have r8 := HRB.out.cell 8
  have r9 := HRB.out.cell 9
  have r10 := HRB.out.cell 10
  have r11 := HRB.out.cell 11
  have r12 := HRB.out.cell 12
  simp at r0 r1 r2 r3 r4 r5 r6 r7 r8 r9 r10 r11 r12
  have rf := HRB.out.frozen
  go_still_tail 15, (by kernel_rfl)
  change wpList _ _ _ _ _ W.drew
  go_wp2_with fail
  refine bodyPost_ret (results_cell_row rfl _ _ w.heap.size 25 _ (0, 0) _ rfl ((set13 HRB.out (.int .i64 2) (.int .u32 (s : Nat)) (.int .u32 (r : Nat)) (.int .u64 0) (.string x0) (.string ⟨#[]⟩) (.string ⟨#[]⟩) (.string x1) (.string ⟨#[]⟩) (.string ⟨#[]⟩) (.string ⟨#[]⟩) (.string x2) (.string x3)).drew) Tryz.underlying25 rfl (by kernel_rfl)) rfl ?_
  exact ⟨rfl, (only13 HO.out (.inr (Nat.le_refl _)) (.int .i64 2) (.int .u32 (s : Nat)) (.int .u32 (r : Nat)) (.int .u64 0) (.string x0) (.string ⟨#[]⟩) (.string ⟨#[]⟩) (.string x1) (.string ⟨#[]⟩) (.string ⟨#[]⟩) (.string ⟨#[]⟩) (.string x2) (.string x3)).drew⟩

set_option maxRecDepth 100000 in
set_option maxHeartbeats 6400000 in
theorem With_3 (w : World) (s r c : Nat) (g o cap : Nat) (x0 x1 : ByteArray) (_hc : 2 ≤ cap) (h0 : w.cell? ⟨g, o, none⟩ = some (.string x0)) (h1 : w.cell? ⟨g, o + 1, none⟩ = some (.string x1)) :
    Calls Tryz.prog 47 #[.int .i64 3, .int .u32 (s : Nat), .int .u32 (r : Nat), .int .u64 (c : Nat), .slice (some ⟨g, o, none⟩) 2 cap] w fun e w' =>
      e = .returned (.agg #[.int .i64 3, .int .u32 0, .int .u32 (r : Nat), .int .u64 0, .string ⟨#[]⟩, .string ⟨#[]⟩, .string ⟨#[]⟩, .string ⟨#[]⟩, .string x0, .string x1, .string ⟨#[]⟩, .string ⟨#[]⟩, .string ⟨#[]⟩]) ∧ Only [] w w' := by
  have hg : g < w.heap.size := by have := World.block_lt_of_cell? w _ h0; simpa using this
  have HRB := hide (Blk.new w 25 #[.int .i64 0, .int .u32 0, .int .u32 0, .int .u64 0, .string ⟨#[]⟩, .string ⟨#[]⟩, .string ⟨#[]⟩, .string ⟨#[]⟩, .string ⟨#[]⟩, .string ⟨#[]⟩, .string ⟨#[]⟩, .string ⟨#[]⟩, .string ⟨#[]⟩])
  have HO := hide ((Only.refl [] w).alloc (.cells #[.int .i64 0, .int .u32 0, .int .u32 0, .int .u64 0, .string ⟨#[]⟩, .string ⟨#[]⟩, .string ⟨#[]⟩, .string ⟨#[]⟩, .string ⟨#[]⟩, .string ⟨#[]⟩, .string ⟨#[]⟩, .string ⟨#[]⟩, .string ⟨#[]⟩] 25))
  have d0 := (cell_only HO.out hg (by simp)).trans h0
  have d1 := (cell_only HO.out hg (by simp)).trans h1
  go_enter Tryz.func47, Tryz.ntmps47
  go_wp2_with fail
  generalize (w.alloc (.cells #[.int .i64 0, .int .u32 0, .int .u32 0, .int .u64 0, .string ⟨#[]⟩, .string ⟨#[]⟩, .string ⟨#[]⟩, .string ⟨#[]⟩, .string ⟨#[]⟩, .string ⟨#[]⟩, .string ⟨#[]⟩, .string ⟨#[]⟩, .string ⟨#[]⟩] 25)) = W at *
  have r0 := HRB.out.cell 0
  have r1 := HRB.out.cell 1
  have r2 := HRB.out.cell 2
  have r3 := HRB.out.cell 3
  have r4 := HRB.out.cell 4
  have r5 := HRB.out.cell 5
  have r6 := HRB.out.cell 6
  have r7 := HRB.out.cell 7
  have r8 := HRB.out.cell 8
  have r9 := HRB.out.cell 9
  have r10 := HRB.out.cell 10
  have r11 := HRB.out.cell 11
  have r12 := HRB.out.cell 12
  simp at r0 r1 r2 r3 r4 r5 r6 r7 r8 r9 r10 r11 r12
  have rf := HRB.out.frozen
  go_still_tail 8, (by kernel_rfl)
  change wpList _ _ _ _ _ W.drew
  go_wp2_with fail
  refine bodyPost_ret (results_cell_row rfl _ _ w.heap.size 25 _ (0, 0) _ rfl ((set13 HRB.out (.int .i64 3) (.int .u32 0) (.int .u32 (r : Nat)) (.int .u64 0) (.string ⟨#[]⟩) (.string ⟨#[]⟩) (.string ⟨#[]⟩) (.string ⟨#[]⟩) (.string x0) (.string x1) (.string ⟨#[]⟩) (.string ⟨#[]⟩) (.string ⟨#[]⟩)).drew) Tryz.underlying25 rfl (by kernel_rfl)) rfl ?_
  exact ⟨rfl, (only13 HO.out (.inr (Nat.le_refl _)) (.int .i64 3) (.int .u32 0) (.int .u32 (r : Nat)) (.int .u64 0) (.string ⟨#[]⟩) (.string ⟨#[]⟩) (.string ⟨#[]⟩) (.string ⟨#[]⟩) (.string x0) (.string x1) (.string ⟨#[]⟩) (.string ⟨#[]⟩) (.string ⟨#[]⟩)).drew⟩

set_option maxRecDepth 100000 in
set_option maxHeartbeats 6400000 in
theorem With_4 (w : World) (s r c : Nat) (g o cap : Nat) (x0 : ByteArray) (_hc : 1 ≤ cap) (h0 : w.cell? ⟨g, o, none⟩ = some (.string x0)) :
    Calls Tryz.prog 47 #[.int .i64 4, .int .u32 (s : Nat), .int .u32 (r : Nat), .int .u64 (c : Nat), .slice (some ⟨g, o, none⟩) 1 cap] w fun e w' =>
      e = .returned (.agg #[.int .i64 4, .int .u32 0, .int .u32 (r : Nat), .int .u64 (c : Nat), .string ⟨#[]⟩, .string ⟨#[]⟩, .string ⟨#[]⟩, .string ⟨#[]⟩, .string ⟨#[]⟩, .string ⟨#[]⟩, .string x0, .string ⟨#[]⟩, .string ⟨#[]⟩]) ∧ Only [] w w' := by
  have hg : g < w.heap.size := by have := World.block_lt_of_cell? w _ h0; simpa using this
  have HRB := hide (Blk.new w 25 #[.int .i64 0, .int .u32 0, .int .u32 0, .int .u64 0, .string ⟨#[]⟩, .string ⟨#[]⟩, .string ⟨#[]⟩, .string ⟨#[]⟩, .string ⟨#[]⟩, .string ⟨#[]⟩, .string ⟨#[]⟩, .string ⟨#[]⟩, .string ⟨#[]⟩])
  have HO := hide ((Only.refl [] w).alloc (.cells #[.int .i64 0, .int .u32 0, .int .u32 0, .int .u64 0, .string ⟨#[]⟩, .string ⟨#[]⟩, .string ⟨#[]⟩, .string ⟨#[]⟩, .string ⟨#[]⟩, .string ⟨#[]⟩, .string ⟨#[]⟩, .string ⟨#[]⟩, .string ⟨#[]⟩] 25))
  have d0 := (cell_only HO.out hg (by simp)).trans h0
  go_enter Tryz.func47, Tryz.ntmps47
  go_upto_region 8 with fail
  generalize (w.alloc (.cells #[.int .i64 0, .int .u32 0, .int .u32 0, .int .u64 0, .string ⟨#[]⟩, .string ⟨#[]⟩, .string ⟨#[]⟩, .string ⟨#[]⟩, .string ⟨#[]⟩, .string ⟨#[]⟩, .string ⟨#[]⟩, .string ⟨#[]⟩, .string ⟨#[]⟩] 25)) = W at *
  have r0 := HRB.out.cell 0
  have r1 := HRB.out.cell 1
  have r2 := HRB.out.cell 2
  have r3 := HRB.out.cell 3
  have r4 := HRB.out.cell 4
  have r5 := HRB.out.cell 5
  have r6 := HRB.out.cell 6
  have r7 := HRB.out.cell 7
  have r8 := HRB.out.cell 8
  have r9 := HRB.out.cell 9
  have r10 := HRB.out.cell 10
  have r11 := HRB.out.cell 11
  have r12 := HRB.out.cell 12
  simp at r0 r1 r2 r3 r4 r5 r6 r7 r8 r9 r10 r11 r12
  have rf := HRB.out.frozen
  go_wp2_with fail
  refine bodyPost_ret (results_cell_row rfl _ _ w.heap.size 25 _ (0, 0) _ rfl ((set13 HRB.out (.int .i64 4) (.int .u32 0) (.int .u32 (r : Nat)) (.int .u64 (c : Nat)) (.string ⟨#[]⟩) (.string ⟨#[]⟩) (.string ⟨#[]⟩) (.string ⟨#[]⟩) (.string ⟨#[]⟩) (.string ⟨#[]⟩) (.string x0) (.string ⟨#[]⟩) (.string ⟨#[]⟩))) Tryz.underlying25 rfl (by kernel_rfl)) rfl ?_
  exact ⟨rfl, (only13 HO.out (.inr (Nat.le_refl _)) (.int .i64 4) (.int .u32 0) (.int .u32 (r : Nat)) (.int .u64 (c : Nat)) (.string ⟨#[]⟩) (.string ⟨#[]⟩) (.string ⟨#[]⟩) (.string ⟨#[]⟩) (.string ⟨#[]⟩) (.string ⟨#[]⟩) (.string x0) (.string ⟨#[]⟩) (.string ⟨#[]⟩))⟩
end
end Go.Proofs.YtfipdjlalfpbnaaGreatDoor

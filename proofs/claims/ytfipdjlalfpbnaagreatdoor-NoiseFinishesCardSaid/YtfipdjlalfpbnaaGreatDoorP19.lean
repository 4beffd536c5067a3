/-
  Walks and plain words (texts Tw, Ag, Wa). No condition beyond those that each theorem states.
-/
import Derived.Test.YtfipdjlalfpbnaaGreatDoorChecked
import Derived.Test.YtfipdjlalfpbnaaGreatDoorP01
import Derived.Test.YtfipdjlalfpbnaaGreatDoorP07
import Derived.Test.YtfipdjlalfpbnaaGreatDoorP14
import Derived.Test.YtfipdjlalfpbnaaGreatDoorP18
namespace Go.Proofs.YtfipdjlalfpbnaaGreatDoor
section
open Go.RowKit Go.Deep

theorem three_of {k : Int} {parts : List ByteArray} (hk : k = 10) (hm : fitsV k parts.length = true) : ∃ a b c, parts = [a, b, c] := by
  subst hk
  have hl : parts.length = 3 := by
    simp only [fitsV, leastV, mostV] at hm
    simp at hm
    omega
  match parts, hl with
  | [a, b, c], _ => exact ⟨a, b, c, rfl⟩
theorem open_is {t key v : ByteArray} {n m : Nat} {bs : List UInt8} {p0 p1 p2 : ByteArray} (hp : parseV t = some (10, m, bs, [p0, p1, p2])) :
    openT t key n v = if (eqB p0 key && decide (m = n) && eqB p2 v) = true then (p1, 0) else (ByteArray.empty, 8) := by
  unfold openT
  rw [hp]
  simp only
  rw [if_neg (by decide)]
  by_cases h : p0 = key ∧ m = n ∧ p2 = v
  · obtain ⟨rfl, rfl, rfl⟩ := h
    rw [if_pos ⟨rfl, rfl, rfl⟩, (eqB_iff p0 p0).2 rfl, (eqB_iff p2 p2).2 rfl, decide_eq_true rfl]
    rfl
  · rw [if_neg (show ¬ ([p0, p1, p2].getD 0 ByteArray.empty = key ∧ m = n ∧ [p0, p1, p2].getD 2 ByteArray.empty = v) from h), if_neg]
    intro h2
    simp only [Bool.and_eq_true, decide_eq_true_eq] at h2
    exact h ⟨(eqB_iff _ _).1 h2.1.1, h2.1.2, (eqB_iff _ _).1 h2.2⟩

set_option maxRecDepth 100000 in
set_option maxHeartbeats 6400000 in
theorem Open_any (w : World) (t key v : ByteArray) (n : Nat) (hs : t.size ≤ maxLen) : Calls Tryz.prog 63 #[.string t, .string key, .int .u64 n, .string v] w (OpenPost (openT t key n v) w) := by
  have HP := hide (parse_any w t hs)
  cases hp : parseV t with
  | none =>
    rw [hp] at HP
    have HV := hide (show openT t key n v = (ByteArray.empty, 3) by unfold openT; rw [hp])
    clear hp
    go_enter Tryz.func63, Tryz.ntmps63
    go_wp2_with (go_at_call 107; refine HP.out.mono ?_; rintro e w1 ⟨rfl, ho⟩; unfold nd0; have HO := hide ho; clear ho)
    go_ret2
    exact openpost HV.out (HO.out.alloc _)
  | some nd =>
    obtain ⟨k, m, bs, parts⟩ := nd
    have hm := (read_make hp).2.2.2.1
    by_cases hk : k = 10
    · obtain ⟨p0, p1, p2, rfl⟩ := three_of hk hm
      subst hk
      have HV := hide (open_is (key := key) (n := n) (v := v) hp)
      rw [hp] at HP
      clear hp hm
      unfold eqB at HV
      rcases Bool.eq_false_or_eq_true (p0.toList == key.toList) with e0 | e0
      all_goals
        rcases Bool.eq_false_or_eq_true (p2.toList == v.toList) with e2 | e2
        all_goals
          rcases Bool.eq_false_or_eq_true (decide (m = n)) with em | em
          all_goals
            rw [e0, e2, em] at HV
            simp only [Bool.and_true, Bool.and_false, if_true, if_false, Bool.false_eq_true] at HV
            have em2 : ((m : Int) != (n : Int)) = !decide (m = n) := by
              by_cases h : m = n
              · subst h; simp
              · rw [decide_eq_false h]; simp; omega
            rw [em] at em2
            simp only [Bool.not_true, Bool.not_false] at em2
            clear em
            go_enter Tryz.func63, Tryz.ntmps63
            go_wp2_with (go_at_call 107; refine HP.out.mono ?_; rintro e w1 ⟨bv, pv, rfl, ho, hb, hp⟩; obtain ⟨A, cap, rfl, _, _⟩ := (hb [] (by simp)).formb; obtain ⟨A2, cap2, rfl, _, _⟩ := (hp [] (by simp)).form; obtain ⟨g, o, rfl, _, hc⟩ := rd_strs ((hp [] (by simp)).only ((Only.refl [] _).alloc (.cells #[.int .i64 10, .int .u64 (m : Nat), .slice A bs.length cap, .slice A2 3 cap2] 145)) (by simp)) (by simp); have s0 := hc 0 (by simp); have s1 := hc 1 (by simp); have s2 := hc 2 (by simp); simp at s0 s1 s2; have HO := hide ho; clear ho hb hp hc; simp only [strs, List.map_cons, List.map_nil, List.length_cons, List.length_nil])
            go_ret2
            exact openpost HV.out (HO.out.alloc _)
    · have HV := hide (show openT t key n v = (ByteArray.empty, 3) by unfold openT; rw [hp]; simp only; rw [if_pos hk])
      rw [hp] at HP
      have hkb : (k != 10) = true := by rw [bne_iff_ne]; exact hk
      clear hp hk hm
      go_enter Tryz.func63, Tryz.ntmps63
      go_wp2_with (go_at_call 107; refine HP.out.mono ?_; rintro e w1 ⟨bv, pv, rfl, ho, hb, hp⟩; obtain ⟨A, cap, rfl, _, _⟩ := (hb [] (by simp)).formb; obtain ⟨A2, cap2, rfl, _, _⟩ := (hp [] (by simp)).form; have HO := hide ho; clear ho hb hp)
      go_ret2
      exact openpost HV.out (HO.out.alloc _)
end
section
open Go.RowKit Go.Deep

/-- What Agree makes. -/
noncomputable def agreeT (x p : ByteArray) : ByteArray := match parseV p with
  | none => ByteArray.empty
  | some nd => if nd.1 = 5 then makeV 6 0 [] [x, nd.2.2.2.getD 0 ByteArray.empty] else ByteArray.empty
theorem one_of {k : Int} {parts : List ByteArray} (hk : k = 5) (hm : fitsV k parts.length = true) : ∃ a, parts = [a] := by
  subst hk
  have hl : parts.length = 1 := by
    simp only [fitsV, leastV, mostV] at hm
    simp at hm
    omega
  exact List.length_eq_one_iff.1 hl
section calls
variable (w : World) (htab : Tab w)
include htab
theorem make_new2 (G : Nat) (hG : G = w.heap.size) (k : Int) (hk : (Lit.int .i64 k).wf = true) (n : Nat) (hn : n < 18446744073709551616) (x y : ByteArray) (hx : x.size ≤ maxLen) (hy : y.size ≤ maxLen) :
    Calls Tryz.prog 66 #[.int .i64 k, .int .u64 n, .slice none 0 0, .slice (some ⟨G, 0, none⟩) 2 2] (w.alloc (.cells #[.string x, .string y] 9)) (MakePost (makeV k n [] [x, y]) w) := by
  subst hG
  exact (Make_any k hk n hn _ _ [] [x, y] (fun p hp => by simp at hp; rcases hp with rfl | rfl <;> assumption) (w.alloc (.cells #[.string x, .string y] 9)) (Rd.nil _ _) (rd_new w 9 [] (strs [x, y]) (by simp) (by unfold maxLen; simp [strs])) (htab.only ((Only.refl [] w).alloc _) (by simp))).mono fun e w' h => ⟨h.1, ((Only.refl [] w).alloc _).trans h.2⟩
theorem make_new1 (G : Nat) (hG : G = w.heap.size) (k : Int) (hk : (Lit.int .i64 k).wf = true) (n : Nat) (hn : n < 18446744073709551616) (x : ByteArray) (hx : x.size ≤ maxLen) :
    Calls Tryz.prog 66 #[.int .i64 k, .int .u64 n, .slice none 0 0, .slice (some ⟨G, 0, none⟩) 1 1] (w.alloc (.cells #[.string x] 9)) (MakePost (makeV k n [] [x]) w) := by
  subst hG
  exact (Make_any k hk n hn _ _ [] [x] (fun p hp => by simp at hp; rw [hp]; exact hx) (w.alloc (.cells #[.string x] 9)) (Rd.nil _ _) (rd_new w 9 [] (strs [x]) (by simp) (by unfold maxLen; simp [strs])) (htab.only ((Only.refl [] w).alloc _) (by simp))).mono fun e w' h => ⟨h.1, ((Only.refl [] w).alloc _).trans h.2⟩
theorem make_new3 (G : Nat) (hG : G = w.heap.size) (k : Int) (hk : (Lit.int .i64 k).wf = true) (n : Nat) (hn : n < 18446744073709551616) (x y z : ByteArray) (hx : x.size ≤ maxLen) (hy : y.size ≤ maxLen) (hz : z.size ≤ maxLen) :
    Calls Tryz.prog 66 #[.int .i64 k, .int .u64 n, .slice none 0 0, .slice (some ⟨G, 0, none⟩) 3 3] (w.alloc (.cells #[.string x, .string y, .string z] 9)) (MakePost (makeV k n [] [x, y, z]) w) := by
  subst hG
  exact (Make_any k hk n hn _ _ [] [x, y, z] (fun p hp => by simp at hp; rcases hp with rfl | rfl | rfl <;> assumption) (w.alloc (.cells #[.string x, .string y, .string z] 9)) (Rd.nil _ _) (rd_new w 9 [] (strs [x, y, z]) (by simp) (by unfold maxLen; simp [strs])) (htab.only ((Only.refl [] w).alloc _) (by simp))).mono fun e w' h => ⟨h.1, ((Only.refl [] w).alloc _).trans h.2⟩
end calls
theorem makeR_new1 (w : World) (G : Nat) (hG : G = w.heap.size) (k : Int) (n : Nat) (hn : n < 18446744073709551616) (x : ByteArray) (hx : x.size ≤ maxLen) :
    Calls Tryz.prog 101 #[.int .i64 k, .int .u64 n, .slice none 0 0, .slice (some ⟨G, 0, none⟩) 1 1] (w.alloc (.cells #[.string x] 9)) (MakePost (makeV k n [] [x]) w) := by
  subst hG
  exact (MakeR_any k n hn _ _ [] (by simp) [x] (by simp) (fun p hp => by simp at hp; rw [hp]; exact hx) (w.alloc (.cells #[.string x] 9)) (Rd.nil _ _) (rd_new w 9 [] (strs [x]) (by simp) (by unfold maxLen; simp [strs]))).mono fun e w' h => ⟨h.1, ((Only.refl [] w).alloc _).trans h.2⟩
theorem makeR_new2 (w : World) (G : Nat) (hG : G = w.heap.size) (k : Int) (n : Nat) (hn : n < 18446744073709551616) (x y : ByteArray) (hx : x.size ≤ maxLen) (hy : y.size ≤ maxLen) :
    Calls Tryz.prog 101 #[.int .i64 k, .int .u64 n, .slice none 0 0, .slice (some ⟨G, 0, none⟩) 2 2] (w.alloc (.cells #[.string x, .string y] 9)) (MakePost (makeV k n [] [x, y]) w) := by
  subst hG
  exact (MakeR_any k n hn _ _ [] (by simp) [x, y] (by simp) (fun p hp => by simp at hp; rcases hp with rfl | rfl <;> assumption) (w.alloc (.cells #[.string x, .string y] 9)) (Rd.nil _ _) (rd_new w 9 [] (strs [x, y]) (by simp) (by unfold maxLen; simp [strs]))).mono fun e w' h => ⟨h.1, ((Only.refl [] w).alloc _).trans h.2⟩
theorem makeR_new3 (w : World) (G : Nat) (hG : G = w.heap.size) (k : Int) (n : Nat) (hn : n < 18446744073709551616) (x y z : ByteArray) (hx : x.size ≤ maxLen) (hy : y.size ≤ maxLen) (hz : z.size ≤ maxLen) :
    Calls Tryz.prog 101 #[.int .i64 k, .int .u64 n, .slice none 0 0, .slice (some ⟨G, 0, none⟩) 3 3] (w.alloc (.cells #[.string x, .string y, .string z] 9)) (MakePost (makeV k n [] [x, y, z]) w) := by
  subst hG
  exact (MakeR_any k n hn _ _ [] (by simp) [x, y, z] (by simp) (fun p hp => by simp at hp; rcases hp with rfl | rfl | rfl <;> assumption) (w.alloc (.cells #[.string x, .string y, .string z] 9)) (Rd.nil _ _) (rd_new w 9 [] (strs [x, y, z]) (by simp) (by unfold maxLen; simp [strs]))).mono fun e w' h => ⟨h.1, ((Only.refl [] w).alloc _).trans h.2⟩

set_option maxRecDepth 100000 in
set_option maxHeartbeats 6400000 in
theorem Agree_any (w : World) (x p : ByteArray) (hx : x.size ≤ maxLen) (hs : p.size ≤ maxLen) (htab : Tab w) : Calls Tryz.prog 93 #[.string x, .string p] w (MakePost (agreeT x p) w) := by
  have HP := hide (parse_any w p hs)
  cases hp : parseV p with
  | none =>
    rw [hp] at HP
    have HV := hide (show agreeT x p = ByteArray.empty by unfold agreeT; rw [hp])
    clear hp
    go_enter Tryz.func93, Tryz.ntmps93
    go_wp2_with (go_at_call 107; refine HP.out.mono ?_; rintro e w1 ⟨rfl, ho⟩; unfold nd0; have HO := hide ho; clear ho)
    go_ret
    exact makepost HV.out (HO.out.alloc _)
  | some nd =>
    obtain ⟨k, m, bs, parts⟩ := nd
    have hm := (read_make hp).2.2.2.1
    by_cases hk : k = 5
    · have hps := (read_make hp).2.2.2.2.2.2.2.2.1
      obtain ⟨p0, rfl⟩ := one_of hk hm
      subst hk
      have HSZ := hide (show p0.size ≤ maxLen from Nat.le_trans (hps p0 (by simp)) hs)
      have HX := hide hx
      have HT := hide htab
      have HV := hide (show agreeT x p = makeV 6 0 [] [x, p0] by unfold agreeT; rw [hp]; rfl)
      rw [hp] at HP
      clear hp hm hps hx hs htab
      go_enter Tryz.func93, Tryz.ntmps93
      go_wp2_with (first
        | (go_at_call 107; refine HP.out.mono ?_; rintro e w1 ⟨bv, pv, rfl, ho, hb, hp⟩; obtain ⟨A, cap, rfl, _, _⟩ := (hb [] (by simp)).formb; obtain ⟨A2, cap2, rfl, _, _⟩ := (hp [] (by simp)).form; obtain ⟨g, o, rfl, _, hc⟩ := rd_strs ((hp [] (by simp)).only ((Only.refl [] _).alloc (.cells #[.int .i64 5, .int .u64 (m : Nat), .slice A bs.length cap, .slice A2 1 cap2] 145)) (by simp)) (by simp); have s0 := hc 0 (by simp); simp at s0; have HO := hide ho; clear ho hb hp hc; simp only [strs, List.map_cons, List.map_nil, List.length_cons, List.length_nil])
        | (go_at_call 66; refine (make_new2 _ (HT.out.only (HO.out.alloc _) (by simp)) _ (by simp) 6 (by decide) 0 (by decide) x p0 HX.out HSZ.out).mono ?_; rintro e w2 ⟨rfl, ho⟩; have HO := hide ((HO.out.alloc _).trans ho); clear ho))
      go_ret
      exact makepost HV.out HO.out
    · have HV := hide (show agreeT x p = ByteArray.empty by unfold agreeT; rw [hp]; simp only; rw [if_neg hk])
      rw [hp] at HP
      have hkb : (k != 5) = true := by rw [bne_iff_ne]; exact hk
      clear hp hk hm
      go_enter Tryz.func93, Tryz.ntmps93
      go_wp2_with (go_at_call 107; refine HP.out.mono ?_; rintro e w1 ⟨bv, pv, rfl, ho, hb, hp⟩; obtain ⟨A, cap, rfl, _, _⟩ := (hb [] (by simp)).formb; obtain ⟨A2, cap2, rfl, _, _⟩ := (hp [] (by simp)).form; have HO := hide ho; clear ho hb hp)
      go_ret
      exact makepost HV.out (HO.out.alloc _)

set_option maxRecDepth 100000 in
set_option maxHeartbeats 6400000 in
theorem AgreeR_any (w : World) (x p : ByteArray) (hx : x.size ≤ maxLen) (hs : p.size ≤ maxLen) : Calls Tryz.prog 46 #[.string x, .string p] w (MakePost (agreeT x p) w) := by
  have HP := hide (readR_all w p hs)
  cases hp : parseV p with
  | none =>
    rw [hp] at HP
    unfold ReadRPost nd0 at HP
    simp only at HP
    have HV := hide (show agreeT x p = ByteArray.empty by unfold agreeT; rw [hp])
    clear hp
    go_enter Tryz.func46, Tryz.ntmps46
    go_wp2_with (go_at_call 39; refine HP.out.mono ?_; rintro e w1 ⟨rfl, ho⟩; have HO := hide ho; clear ho)
    go_ret
    exact makepost HV.out (HO.out.alloc _)
  | some nd =>
    obtain ⟨k, m, bs, parts⟩ := nd
    have hm := (read_make hp).2.2.2.1
    by_cases hk : k = 5
    · have hps := (read_make hp).2.2.2.2.2.2.2.2.1
      obtain ⟨p0, rfl⟩ := one_of hk hm
      subst hk
      have HSZ := hide (show p0.size ≤ maxLen from Nat.le_trans (hps p0 (by simp)) hs)
      have HX := hide hx
      have HV := hide (show agreeT x p = makeV 6 0 [] [x, p0] by unfold agreeT; rw [hp]; rfl)
      rw [hp] at HP
      unfold ReadRPost at HP
      simp only at HP
      clear hp hm hps hx hs
      go_enter Tryz.func46, Tryz.ntmps46
      go_wp2_with (first
        | (go_at_call 39; refine HP.out.mono ?_; rintro e w1 ⟨bv, pv, rfl, ho, hb, hp⟩; obtain ⟨A, cap, rfl, _, _⟩ := (hb [] (by simp)).formb; obtain ⟨A2, cap2, rfl, _, _⟩ := (hp [] (by simp)).form; obtain ⟨g, o, rfl, _, hc⟩ := rd_strs ((hp [] (by simp)).only ((Only.refl [] _).alloc (.cells #[.int .i64 5, .int .u64 (m : Nat), .slice A bs.length cap, .slice A2 1 cap2] 77)) (by simp)) (by simp); have s0 := hc 0 (by simp); simp at s0; have HO := hide ho; clear ho hb hp hc; simp only [strs, List.map_cons, List.map_nil, List.length_cons, List.length_nil])
        | (go_at_call 101; refine (makeR_new2 _ _ (by simp) 6 0 (by decide) x p0 HX.out HSZ.out).mono ?_; rintro e w2 ⟨rfl, ho⟩; have HO := hide ((HO.out.alloc _).trans ho); clear ho))
      go_ret
      exact makepost HV.out HO.out
    · have HV := hide (show agreeT x p = ByteArray.empty by unfold agreeT; rw [hp]; simp only; rw [if_neg hk])
      rw [hp] at HP
      unfold ReadRPost at HP
      simp only at HP
      have hkb : (k != 5) = true := by rw [bne_iff_ne]; exact hk
      clear hp hk hm
      go_enter Tryz.func46, Tryz.ntmps46
      go_wp2_with (go_at_call 39; refine HP.out.mono ?_; rintro e w1 ⟨bv, pv, rfl, ho, hb, hp⟩; obtain ⟨A, cap, rfl, _, _⟩ := (hb [] (by simp)).formb; obtain ⟨A2, cap2, rfl, _, _⟩ := (hp [] (by simp)).form; have HO := hide ho; clear ho hb hp)
      go_ret
      exact makepost HV.out (HO.out.alloc _)

set_option maxRecDepth 100000 in
set_option maxHeartbeats 1600000 in
theorem PubR_any (w : World) (x : ByteArray) (hx : x.size ≤ maxLen) : Calls Tryz.prog 42 #[.string x] w (MakePost (makeV 5 0 [] [x]) w) := by
  go_enter Tryz.func42, Tryz.ntmps42
  go_wp2_with (go_at_call 101; refine (makeR_new1 _ _ rfl 5 0 (by decide) x hx).mono ?_; rintro e w2 ⟨rfl, ho⟩; have HO := hide ho; clear ho)
  go_ret
  exact makepost rfl HO.out
set_option maxRecDepth 100000 in
set_option maxHeartbeats 1600000 in
theorem SealR_any (w : World) (n : Nat) (hn : n < 18446744073709551616) (x y z : ByteArray) (hx : x.size ≤ maxLen) (hy : y.size ≤ maxLen) (hz : z.size ≤ maxLen) : Calls Tryz.prog 68 #[.int .u64 n, .string x, .string y, .string z] w (MakePost (makeV 10 n [] [x, y, z]) w) := by
  have HN := hide hn
  clear hn
  go_enter Tryz.func68, Tryz.ntmps68
  go_wp2_with (go_at_call 101; refine (makeR_new3 _ _ rfl 10 n HN.out x y z hx hy hz).mono ?_; rintro e w2 ⟨rfl, ho⟩; have HO := hide ho; clear ho)
  go_ret
  exact makepost rfl HO.out
end
section
open Go.RowKit Go.Deep

/-- A function without captured places, as a value. -/
abbrev fnV (f : FuncId) : Value := .func (.func f) #[] #[]
/-- A field of four bytes, whose place is told by the closure in the block b. -/
abbrev numF (b : Nat) : Value := .agg #[.int .i64 4, .func (.func 169) #[] #[.pointer (some ⟨b, 0, none⟩)], .func (.func 170) #[] #[.pointer (some ⟨b, 0, none⟩)], .nilFunc]
def numC (b : Nat) : List Value := [.int .i64 4, .func (.func 169) #[] #[.pointer (some ⟨b, 0, none⟩)], .func (.func 170) #[] #[.pointer (some ⟨b, 0, none⟩)], .nilFunc]

set_option maxHeartbeats 1600000 in
theorem wnumber_any (f : FuncId) (w : World) : Calls Tryz.prog 149 #[fnV f] w fun e w' => e = .returned (numF w.heap.size) ∧ Blk w' w.heap.size 205 #[fnV f] ∧ w.heap.size < w'.heap.size ∧ Only [] w w' := by
  have hst := fun (W : World) (a : Addr) (fn : Fn) (c : Array Value) => (run_store Tryz.prog W a (.func fn #[] c) .plain rfl : (store a (.func fn #[] c)).run Tryz.prog W = stored Tryz.prog W a (.func fn #[] c) .plain)
  have hsn := fun (W : World) (a : Addr) => (run_store Tryz.prog W a .nilFunc .plain rfl : (store a .nilFunc).run Tryz.prog W = stored Tryz.prog W a .nilFunc .plain)
  have HB := hide ((Blk.new w 205 #[fnV f]).alloc (.cells (numC w.heap.size).toArray 155))
  have HF := hide (Blk.new (w.alloc (.cells #[fnV f] 205)) 155 (numC w.heap.size).toArray)
  rw [World.size_alloc] at HF
  have HO := hide (((Only.refl [] w).alloc (.cells #[fnV f] 205)).alloc (.cells (numC w.heap.size).toArray 155))
  go_enter Tryz.func149, Tryz.ntmps149
  go_wp2
  refine bodyPost_ret (results_cell_row rfl _ _ (w.heap.size + 1) 155 _ (0, 0) _ rfl HF.out Tryz.underlying155 rfl (by kernel_rfl)) rfl ?_
  exact ⟨rfl, HB.out, (by simp; omega), HO.out⟩
set_option maxRecDepth 100000 in
theorem numget1 (M b : Nat) (x : Nat) (w : World) (h : w.cell? ⟨b, 0, none⟩ = some (fnV 150)) (h2 : w.cell? ⟨M, 1, none⟩ = some (.int .u32 x)) (hx : x < 4294967296) :
    Calls Tryz.prog 169 #[.pointer (some ⟨M, 0, none⟩), .pointer (some ⟨b, 0, none⟩)] w fun e w' => e = .returned (.int .u64 x) ∧ w = w' := by
  have hw : IntKind.u64.wrap (x : Int) = x := by rw [IntKind.wrap_u64]; omega
  clear hx
  go_enter Tryz.func169, Tryz.ntmps169
  go_wp2
  go_ret
  exact ⟨rfl, rfl⟩
set_option maxRecDepth 100000 in
theorem numset1 (M b : Nat) (x : Nat) (w : World) (h : w.cell? ⟨b, 0, none⟩ = some (fnV 150)) {y : Nat} (h2 : w.cell? ⟨M, 1, none⟩ = some (.int .u32 y)) (hf : w.frozen? ⟨M, 1, none⟩ = false) (hx : x < 4294967296) :
    Calls Tryz.prog 170 #[.pointer (some ⟨M, 0, none⟩), .int .u64 x, .pointer (some ⟨b, 0, none⟩)] w fun e w' => e = .returned (.tuple #[]) ∧ w' = w.setCell ⟨M, 1, none⟩ (.int .u32 x) := by
  have hw : IntKind.u32.wrap (x : Int) = x := by rw [IntKind.wrap_u32]; omega
  clear hx
  go_enter Tryz.func170, Tryz.ntmps170
  go_wp2
  go_end0
  exact ⟨rfl, rfl⟩
set_option maxRecDepth 100000 in
theorem numget2 (M b : Nat) (x : Nat) (w : World) (h : w.cell? ⟨b, 0, none⟩ = some (fnV 151)) (h2 : w.cell? ⟨M, 2, none⟩ = some (.int .u32 x)) (hx : x < 4294967296) :
    Calls Tryz.prog 169 #[.pointer (some ⟨M, 0, none⟩), .pointer (some ⟨b, 0, none⟩)] w fun e w' => e = .returned (.int .u64 x) ∧ w = w' := by
  have hw : IntKind.u64.wrap (x : Int) = x := by rw [IntKind.wrap_u64]; omega
  clear hx
  go_enter Tryz.func169, Tryz.ntmps169
  go_wp2
  go_ret
  exact ⟨rfl, rfl⟩
set_option maxRecDepth 100000 in
theorem numset2 (M b : Nat) (x : Nat) (w : World) (h : w.cell? ⟨b, 0, none⟩ = some (fnV 151)) {y : Nat} (h2 : w.cell? ⟨M, 2, none⟩ = some (.int .u32 y)) (hf : w.frozen? ⟨M, 2, none⟩ = false) (hx : x < 4294967296) :
    Calls Tryz.prog 170 #[.pointer (some ⟨M, 0, none⟩), .int .u64 x, .pointer (some ⟨b, 0, none⟩)] w fun e w' => e = .returned (.tuple #[]) ∧ w' = w.setCell ⟨M, 2, none⟩ (.int .u32 x) := by
  have hw : IntKind.u32.wrap (x : Int) = x := by rw [IntKind.wrap_u32]; omega
  clear hx
  go_enter Tryz.func170, Tryz.ntmps170
  go_wp2
  go_end0
  exact ⟨rfl, rfl⟩
theorem place4 (M : Nat) (w : World) : Calls Tryz.prog 152 #[.pointer (some ⟨M, 0, none⟩)] w fun e w' => e = .returned (.pointer (some ⟨M, 4, none⟩)) ∧ w = w' := by
  go_enter Tryz.func152, Tryz.ntmps152
  go_wp2
  go_ret
  exact ⟨rfl, rfl⟩
theorem place11 (M : Nat) (w : World) : Calls Tryz.prog 153 #[.pointer (some ⟨M, 0, none⟩)] w fun e w' => e = .returned (.pointer (some ⟨M, 11, none⟩)) ∧ w = w' := by
  go_enter Tryz.func153, Tryz.ntmps153
  go_wp2
  go_ret
  exact ⟨rfl, rfl⟩
theorem place12 (M : Nat) (w : World) : Calls Tryz.prog 154 #[.pointer (some ⟨M, 0, none⟩)] w fun e w' => e = .returned (.pointer (some ⟨M, 12, none⟩)) ∧ w = w' := by
  go_enter Tryz.func154, Tryz.ntmps154
  go_wp2
  go_ret
  exact ⟨rfl, rfl⟩
theorem place5 (M : Nat) (w : World) : Calls Tryz.prog 155 #[.pointer (some ⟨M, 0, none⟩)] w fun e w' => e = .returned (.pointer (some ⟨M, 5, none⟩)) ∧ w = w' := by
  go_enter Tryz.func155, Tryz.ntmps155
  go_wp2
  go_ret
  exact ⟨rfl, rfl⟩
theorem place6 (M : Nat) (w : World) : Calls Tryz.prog 156 #[.pointer (some ⟨M, 0, none⟩)] w fun e w' => e = .returned (.pointer (some ⟨M, 6, none⟩)) ∧ w = w' := by
  go_enter Tryz.func156, Tryz.ntmps156
  go_wp2
  go_ret
  exact ⟨rfl, rfl⟩
theorem place7 (M : Nat) (w : World) : Calls Tryz.prog 157 #[.pointer (some ⟨M, 0, none⟩)] w fun e w' => e = .returned (.pointer (some ⟨M, 7, none⟩)) ∧ w = w' := by
  go_enter Tryz.func157, Tryz.ntmps157
  go_wp2
  go_ret
  exact ⟨rfl, rfl⟩
theorem place8 (M : Nat) (w : World) : Calls Tryz.prog 158 #[.pointer (some ⟨M, 0, none⟩)] w fun e w' => e = .returned (.pointer (some ⟨M, 8, none⟩)) ∧ w = w' := by
  go_enter Tryz.func158, Tryz.ntmps158
  go_wp2
  go_ret
  exact ⟨rfl, rfl⟩
theorem place9 (M : Nat) (w : World) : Calls Tryz.prog 159 #[.pointer (some ⟨M, 0, none⟩)] w fun e w' => e = .returned (.pointer (some ⟨M, 9, none⟩)) ∧ w = w' := by
  go_enter Tryz.func159, Tryz.ntmps159
  go_wp2
  go_ret
  exact ⟨rfl, rfl⟩
theorem place10 (M : Nat) (w : World) : Calls Tryz.prog 162 #[.pointer (some ⟨M, 0, none⟩)] w fun e w' => e = .returned (.pointer (some ⟨M, 10, none⟩)) ∧ w = w' := by
  go_enter Tryz.func162, Tryz.ntmps162
  go_wp2
  go_ret
  exact ⟨rfl, rfl⟩
set_option maxHeartbeats 1600000 in
theorem cntget (M : Nat) (x : Nat) (w : World) (h2 : w.cell? ⟨M, 3, none⟩ = some (.int .u64 x)) :
    Calls Tryz.prog 160 #[.pointer (some ⟨M, 0, none⟩)] w fun e w' => e = .returned (.int .u64 x) ∧ w = w' := by
  go_enter Tryz.func160, Tryz.ntmps160
  go_wp2
  go_ret
  exact ⟨rfl, rfl⟩
theorem cntset (M : Nat) (x : Nat) (w : World) {y : Nat} (h2 : w.cell? ⟨M, 3, none⟩ = some (.int .u64 y)) (hf : w.frozen? ⟨M, 3, none⟩ = false) :
    Calls Tryz.prog 161 #[.pointer (some ⟨M, 0, none⟩), .int .u64 x] w fun e w' => e = .returned (.tuple #[]) ∧ w' = w.setCell ⟨M, 3, none⟩ (.int .u64 x) := by
  go_enter Tryz.func161, Tryz.ntmps161
  go_wp2
  go_end0
  exact ⟨rfl, rfl⟩
end
end Go.Proofs.YtfipdjlalfpbnaaGreatDoor

/-
  term's Agree, the reference's Agree, Pub and Seal: by walking. Condition: texts of at most 2^63 - 1 bytes; the library's table of powers of ten reads as it was laid.
-/
import Derived.Test.YtfmfnfmhknlpbaaDoorRpQ
import Derived.Test.YtfmfnfmhknlpbaaDoorTwQ
namespace Go.Proofs.YtfmfnfmhknlpbaaDoor
open Go.RowKit Go.Deep

/-- What Agree makes. -/
noncomputable def agreeT (x p : ByteArray) : ByteArray := match parseV p with
  | none => ByteArray.empty
  | some nd => if nd.1 = 5 then makeV 6 0 [] [x, nd.2.2.2.getD 0 ByteArray.empty] else ByteArray.empty
theorem one_of {k : Int} {parts : List ByteArray} (hk : k = 5) (hm : fitsV k parts.length = true) : ∃ a, parts = [a] := by
  subst hk
  have hl : parts.length = 1 := by
    simp only [fitsV, leastV, mostV] at hm
    simp at hm
    omega
  exact List.length_eq_one_iff.1 hl
section calls
variable (w : World) (htab : Tab w)
include htab
theorem make_new2 (G : Nat) (hG : G = w.heap.size) (k : Int) (hk : (Lit.int .i64 k).wf = true) (n : Nat) (hn : n < 18446744073709551616) (x y : ByteArray) (hx : x.size ≤ maxLen) (hy : y.size ≤ maxLen) :
    Calls Tryd.prog 11 #[.int .i64 k, .int .u64 n, .slice none 0 0, .slice (some ⟨G, 0, none⟩) 2 2] (w.alloc (.cells #[.string x, .string y] 9)) (MakePost (makeV k n [] [x, y]) w) := by
  subst hG
  exact (Make_any k hk n hn _ _ [] [x, y] (fun p hp => by simp at hp; rcases hp with rfl | rfl <;> assumption) (w.alloc (.cells #[.string x, .string y] 9)) (Rd.nil _ _) (rd_new w 9 [] (strs [x, y]) (by simp) (by unfold maxLen; simp [strs])) (htab.only ((Only.refl [] w).alloc _) (by simp))).mono fun e w' h => ⟨h.1, ((Only.refl [] w).alloc _).trans h.2⟩
theorem make_new1 (G : Nat) (hG : G = w.heap.size) (k : Int) (hk : (Lit.int .i64 k).wf = true) (n : Nat) (hn : n < 18446744073709551616) (x : ByteArray) (hx : x.size ≤ maxLen) :
    Calls Tryd.prog 11 #[.int .i64 k, .int .u64 n, .slice none 0 0, .slice (some ⟨G, 0, none⟩) 1 1] (w.alloc (.cells #[.string x] 9)) (MakePost (makeV k n [] [x]) w) := by
  subst hG
  exact (Make_any k hk n hn _ _ [] [x] (fun p hp => by simp at hp; rw [hp]; exact hx) (w.alloc (.cells #[.string x] 9)) (Rd.nil _ _) (rd_new w 9 [] (strs [x]) (by simp) (by unfold maxLen; simp [strs])) (htab.only ((Only.refl [] w).alloc _) (by simp))).mono fun e w' h => ⟨h.1, ((Only.refl [] w).alloc _).trans h.2⟩
theorem make_new3 (G : Nat) (hG : G = w.heap.size) (k : Int) (hk : (Lit.int .i64 k).wf = true) (n : Nat) (hn : n < 18446744073709551616) (x y z : ByteArray) (hx : x.size ≤ maxLen) (hy : y.size ≤ maxLen) (hz : z.size ≤ maxLen) :
    Calls Tryd.prog 11 #[.int .i64 k, .int .u64 n, .slice none 0 0, .slice (some ⟨G, 0, none⟩) 3 3] (w.alloc (.cells #[.string x, .string y, .string z] 9)) (MakePost (makeV k n [] [x, y, z]) w) := by
  subst hG
  exact (Make_any k hk n hn _ _ [] [x, y, z] (fun p hp => by simp at hp; rcases hp with rfl | rfl | rfl <;> assumption) (w.alloc (.cells #[.string x, .string y, .string z] 9)) (Rd.nil _ _) (rd_new w 9 [] (strs [x, y, z]) (by simp) (by unfold maxLen; simp [strs])) (htab.only ((Only.refl [] w).alloc _) (by simp))).mono fun e w' h => ⟨h.1, ((Only.refl [] w).alloc _).trans h.2⟩
end calls
theorem makeR_new1 (w : World) (G : Nat) (hG : G = w.heap.size) (k : Int) (n : Nat) (hn : n < 18446744073709551616) (x : ByteArray) (hx : x.size ≤ maxLen) :
    Calls Tryd.prog 18 #[.int .i64 k, .int .u64 n, .slice none 0 0, .slice (some ⟨G, 0, none⟩) 1 1] (w.alloc (.cells #[.string x] 9)) (MakePost (makeV k n [] [x]) w) := by
  subst hG
  exact (MakeR_any k n hn _ _ [] (by simp) [x] (by simp) (fun p hp => by simp at hp; rw [hp]; exact hx) (w.alloc (.cells #[.string x] 9)) (Rd.nil _ _) (rd_new w 9 [] (strs [x]) (by simp) (by unfold maxLen; simp [strs]))).mono fun e w' h => ⟨h.1, ((Only.refl [] w).alloc _).trans h.2⟩
theorem makeR_new2 (w : World) (G : Nat) (hG : G = w.heap.size) (k : Int) (n : Nat) (hn : n < 18446744073709551616) (x y : ByteArray) (hx : x.size ≤ maxLen) (hy : y.size ≤ maxLen) :
    Calls Tryd.prog 18 #[.int .i64 k, .int .u64 n, .slice none 0 0, .slice (some ⟨G, 0, none⟩) 2 2] (w.alloc (.cells #[.string x, .string y] 9)) (MakePost (makeV k n [] [x, y]) w) := by
  subst hG
  exact (MakeR_any k n hn _ _ [] (by simp) [x, y] (by simp) (fun p hp => by simp at hp; rcases hp with rfl | rfl <;> assumption) (w.alloc (.cells #[.string x, .string y] 9)) (Rd.nil _ _) (rd_new w 9 [] (strs [x, y]) (by simp) (by unfold maxLen; simp [strs]))).mono fun e w' h => ⟨h.1, ((Only.refl [] w).alloc _).trans h.2⟩
theorem makeR_new3 (w : World) (G : Nat) (hG : G = w.heap.size) (k : Int) (n : Nat) (hn : n < 18446744073709551616) (x y z : ByteArray) (hx : x.size ≤ maxLen) (hy : y.size ≤ maxLen) (hz : z.size ≤ maxLen) :
    Calls Tryd.prog 18 #[.int .i64 k, .int .u64 n, .slice none 0 0, .slice (some ⟨G, 0, none⟩) 3 3] (w.alloc (.cells #[.string x, .string y, .string z] 9)) (MakePost (makeV k n [] [x, y, z]) w) := by
  subst hG
  exact (MakeR_any k n hn _ _ [] (by simp) [x, y, z] (by simp) (fun p hp => by simp at hp; rcases hp with rfl | rfl | rfl <;> assumption) (w.alloc (.cells #[.string x, .string y, .string z] 9)) (Rd.nil _ _) (rd_new w 9 [] (strs [x, y, z]) (by simp) (by unfold maxLen; simp [strs]))).mono fun e w' h => ⟨h.1, ((Only.refl [] w).alloc _).trans h.2⟩

set_option maxRecDepth 100000 in
set_option maxHeartbeats 6400000 in
theorem Agree_any (w : World) (x p : ByteArray) (hx : x.size ≤ maxLen) (hs : p.size ≤ maxLen) (htab : Tab w) : Calls Tryd.prog 13 #[.string x, .string p] w (MakePost (agreeT x p) w) := by
  have HP := hide (parse_any w p hs)
  cases hp : parseV p with
  | none =>
    rw [hp] at HP
    have HV := hide (show agreeT x p = ByteArray.empty by unfold agreeT; rw [hp])
    clear hp
    go_enter Tryd.func13, Tryd.ntmps13
    go_wp2_with (go_at_call 61; refine HP.out.mono ?_; rintro e w1 ⟨rfl, ho⟩; unfold nd0; have HO := hide ho; clear ho)
    go_ret
    exact makepost HV.out (HO.out.alloc _)
  | some nd =>
    obtain ⟨k, m, bs, parts⟩ := nd
    have hm := (read_make hp).2.2.2.1
    by_cases hk : k = 5
    · have hps := (read_make hp).2.2.2.2.2.2.2.2.1
      obtain ⟨p0, rfl⟩ := one_of hk hm
      subst hk
      have HSZ := hide (show p0.size ≤ maxLen from Nat.le_trans (hps p0 (by simp)) hs)
      have HX := hide hx
      have HT := hide htab
      have HV := hide (show agreeT x p = makeV 6 0 [] [x, p0] by unfold agreeT; rw [hp]; rfl)
      rw [hp] at HP
      clear hp hm hps hx hs htab
      go_enter Tryd.func13, Tryd.ntmps13
      go_wp2_with (first
        | (go_at_call 61; refine HP.out.mono ?_; rintro e w1 ⟨bv, pv, rfl, ho, hb, hp⟩; obtain ⟨A, cap, rfl, _, _⟩ := (hb [] (by simp)).formb; obtain ⟨A2, cap2, rfl, _, _⟩ := (hp [] (by simp)).form; obtain ⟨g, o, rfl, _, hc⟩ := rd_strs ((hp [] (by simp)).only ((Only.refl [] _).alloc (.cells #[.int .i64 5, .int .u64 (m : Nat), .slice A bs.length cap, .slice A2 1 cap2] 81)) (by simp)) (by simp); have s0 := hc 0 (by simp); simp at s0; have HO := hide ho; clear ho hb hp hc; simp only [strs, List.map_cons, List.map_nil, List.length_cons, List.length_nil])
        | (go_at_call 11; refine (make_new2 _ (HT.out.only (HO.out.alloc _) (by simp)) _ (by simp) 6 (by decide) 0 (by decide) x p0 HX.out HSZ.out).mono ?_; rintro e w2 ⟨rfl, ho⟩; have HO := hide ((HO.out.alloc _).trans ho); clear ho))
      go_ret
      exact makepost HV.out HO.out
    · have HV := hide (show agreeT x p = ByteArray.empty by unfold agreeT; rw [hp]; simp only; rw [if_neg hk])
      rw [hp] at HP
      have hkb : (k != 5) = true := by rw [bne_iff_ne]; exact hk
      clear hp hk hm
      go_enter Tryd.func13, Tryd.ntmps13
      go_wp2_with (go_at_call 61; refine HP.out.mono ?_; rintro e w1 ⟨bv, pv, rfl, ho, hb, hp⟩; obtain ⟨A, cap, rfl, _, _⟩ := (hb [] (by simp)).formb; obtain ⟨A2, cap2, rfl, _, _⟩ := (hp [] (by simp)).form; have HO := hide ho; clear ho hb hp)
      go_ret
      exact makepost HV.out (HO.out.alloc _)

set_option maxRecDepth 100000 in
set_option maxHeartbeats 6400000 in
theorem AgreeR_any (w : World) (x p : ByteArray) (hx : x.size ≤ maxLen) (hs : p.size ≤ maxLen) : Calls Tryd.prog 14 #[.string x, .string p] w (MakePost (agreeT x p) w) := by
  have HP := hide (readR_all w p hs)
  cases hp : parseV p with
  | none =>
    rw [hp] at HP
    unfold ReadRPost nd0 at HP
    simp only at HP
    have HV := hide (show agreeT x p = ByteArray.empty by unfold agreeT; rw [hp])
    clear hp
    go_enter Tryd.func14, Tryd.ntmps14
    go_wp2_with (go_at_call 23; refine HP.out.mono ?_; rintro e w1 ⟨rfl, ho⟩; have HO := hide ho; clear ho)
    go_ret
    exact makepost HV.out (HO.out.alloc _)
  | some nd =>
    obtain ⟨k, m, bs, parts⟩ := nd
    have hm := (read_make hp).2.2.2.1
    by_cases hk : k = 5
    · have hps := (read_make hp).2.2.2.2.2.2.2.2.1
      obtain ⟨p0, rfl⟩ := one_of hk hm
      subst hk
      have HSZ := hide (show p0.size ≤ maxLen from Nat.le_trans (hps p0 (by simp)) hs)
      have HX := hide hx
      have HV := hide (show agreeT x p = makeV 6 0 [] [x, p0] by unfold agreeT; rw [hp]; rfl)
      rw [hp] at HP
      unfold ReadRPost at HP
      simp only at HP
      clear hp hm hps hx hs
      go_enter Tryd.func14, Tryd.ntmps14
      go_wp2_with (first
        | (go_at_call 23; refine HP.out.mono ?_; rintro e w1 ⟨bv, pv, rfl, ho, hb, hp⟩; obtain ⟨A, cap, rfl, _, _⟩ := (hb [] (by simp)).formb; obtain ⟨A2, cap2, rfl, _, _⟩ := (hp [] (by simp)).form; obtain ⟨g, o, rfl, _, hc⟩ := rd_strs ((hp [] (by simp)).only ((Only.refl [] _).alloc (.cells #[.int .i64 5, .int .u64 (m : Nat), .slice A bs.length cap, .slice A2 1 cap2] 41)) (by simp)) (by simp); have s0 := hc 0 (by simp); simp at s0; have HO := hide ho; clear ho hb hp hc; simp only [strs, List.map_cons, List.map_nil, List.length_cons, List.length_nil])
        | (go_at_call 18; refine (makeR_new2 _ _ (by simp) 6 0 (by decide) x p0 HX.out HSZ.out).mono ?_; rintro e w2 ⟨rfl, ho⟩; have HO := hide ((HO.out.alloc _).trans ho); clear ho))
      go_ret
      exact makepost HV.out HO.out
    · have HV := hide (show agreeT x p = ByteArray.empty by unfold agreeT; rw [hp]; simp only; rw [if_neg hk])
      rw [hp] at HP
      unfold ReadRPost at HP
      simp only at HP
      have hkb : (k != 5) = true := by rw [bne_iff_ne]; exact hk
      clear hp hk hm
      go_enter Tryd.func14, Tryd.ntmps14
      go_wp2_with (go_at_call 23; refine HP.out.mono ?_; rintro e w1 ⟨bv, pv, rfl, ho, hb, hp⟩; obtain ⟨A, cap, rfl, _, _⟩ := (hb [] (by simp)).formb; obtain ⟨A2, cap2, rfl, _, _⟩ := (hp [] (by simp)).form; have HO := hide ho; clear ho hb hp)
      go_ret
      exact makepost HV.out (HO.out.alloc _)

set_option maxRecDepth 100000 in
set_option maxHeartbeats 1600000 in
theorem PubR_any (w : World) (x : ByteArray) (hx : x.size ≤ maxLen) : Calls Tryd.prog 15 #[.string x] w (MakePost (makeV 5 0 [] [x]) w) := by
  go_enter Tryd.func15, Tryd.ntmps15
  go_wp2_with (go_at_call 18; refine (makeR_new1 _ _ rfl 5 0 (by decide) x hx).mono ?_; rintro e w2 ⟨rfl, ho⟩; have HO := hide ho; clear ho)
  go_ret
  exact makepost rfl HO.out
set_option maxRecDepth 100000 in
set_option maxHeartbeats 1600000 in
theorem SealR_any (w : World) (n : Nat) (hn : n < 18446744073709551616) (x y z : ByteArray) (hx : x.size ≤ maxLen) (hy : y.size ≤ maxLen) (hz : z.size ≤ maxLen) : Calls Tryd.prog 25 #[.int .u64 n, .string x, .string y, .string z] w (MakePost (makeV 10 n [] [x, y, z]) w) := by
  have HN := hide hn
  clear hn
  go_enter Tryd.func25, Tryd.ntmps25
  go_wp2_with (go_at_call 18; refine (makeR_new3 _ _ rfl 10 n HN.out x y z hx hy hz).mono ?_; rintro e w2 ⟨rfl, ho⟩; have HO := hide ho; clear ho)
  go_ret
  exact makepost rfl HO.out
end Go.Proofs.YtfmfnfmhknlpbaaDoor

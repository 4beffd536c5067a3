/-
  Walks and plain words (texts Num4, Tm4, Scope, Tm5). No condition beyond those that each theorem states.
-/
import Derived.ScopeJumps
import Derived.Test.YtcokjoidpnfjhaaGreatDoorA02
namespace Go.Proofs.YtcokjoidpnfjhaaGreatDoor
section
open Go.RowKit Go.Deep

theorem ofInt_i64 (a : Nat) (ha : a < 9223372036854775808) : (BitVec.ofInt 64 (a : Int)).toNat = a := by
  rw [BitVec.ofInt_natCast, BitVec.toNat_ofNat]; exact Nat.mod_eq_of_lt (by omega)
theorem i64_or_nat (a b : Nat) (ha : a < 9223372036854775808) (hb : b < 9223372036854775808) : bits .or .i64 (a : Int) (b : Int) = ((a ||| b : Nat) : Int) := by
  have hx : a ||| b < 2 ^ 63 := Nat.or_lt_two_pow (by omega) (by omega)
  show IntKind.i64.wrap ((BitVec.ofInt 64 (a : Int) ||| BitVec.ofInt 64 (b : Int)).toNat : Int) = _
  rw [BitVec.toNat_or, ofInt_i64 a ha, ofInt_i64 b hb, IntKind.wrap_i64]
  omega
theorem or_nib (x y : Nat) (hx : x < 16) (hy : y < 16) : bits .or .i64 ((x : Int) * 16) (y : Int) = ((16 * x + y : Nat) : Int) := by
  have h := i64_or_nat (16 * x) y (by omega) (by omega)
  have e : 16 * x ||| y = 16 * x + y := (Nat.two_pow_add_eq_or_of_lt (i := 4) hy x).symm
  rw [e] at h
  rw [← h, show ((16 * x : Nat) : Int) = (x : Int) * 16 by omega]
theorem ints_snoc_list (k : IntKind) (l m : List Int) : ints k l ++ ints k m = ints k (l ++ m) := by simp [ints]
theorem byts_some {r : List UInt8 × Nat} {l : List UInt8} {c : Nat} {v : Value} {w w' : World} (h : r = (l, c)) (ho : Only [] w w') (hr : ∀ N : List Nat, (∀ x ∈ N, x < w.heap.size) → Rd w' N v (ints .u8 (byts l))) : BytsPost r w (.returned (.tuple #[v, .int .i64 c])) w' := by
  subst h; exact ⟨_, rfl, ho, hr⟩
theorem rd_whole {w' : World} {B e j : Nat} {v : Value} {s : ByteArray} (h : w'.ownsRow B e 1 v j (ints .u8 (byts (hexP (s.data.toList.take s.size))))) : ∀ N : List Nat, (∀ x ∈ N, x < B) → Rd w' N v (ints .u8 (byts (hexP s.data.toList))) := by
  intro N hN
  have h1 := (Rd.of_own h hN).1
  rwa [show s.data.toList.take s.size = s.data.toList from List.take_of_length_le (Nat.le_of_eq rfl)] at h1
theorem one_hex {v : Value} {w' : World} {B e j k : Nat} {s : ByteArray} {z : Nat} (h : w'.ownsRow B e 1 v (j + 1) (ints .u8 (byts (hexP (s.data.toList.take k))) ++ [.int .u8 (z : Int)])) (hk : k = 2 * j) (hlt : k + 1 < s.size)
    (hz : z = 16 * nib s[k] + nib s[k + 1]) : w'.ownsRow B e 1 v (j + 1) (ints .u8 (byts (hexP (s.data.toList.take (k + 2))))) := by
  subst hk
  have e := hexP_take s j (by omega)
  rw [show 2 * (j + 1) = 2 * j + 2 by omega] at e
  rw [e, byts_append, ← ints_snoc_list]
  have hb : byts [UInt8.ofNat (16 * nib s[2 * j] + nib s[2 * j + 1])] = [(z : Int)] := by
    unfold byts
    simp only [List.map_cons, List.map_nil, UInt8.toNat_ofNat']
    have h1 := nib_lt s[2 * j]
    have h2 := nib_lt s[2 * j + 1]
    rw [← hz, Nat.mod_eq_of_lt (by omega)]
  rw [hb]
  exact h

set_option maxRecDepth 100000 in
set_option maxHeartbeats 6400000 in
theorem num_readhex (w : World) (s : ByteArray) (hs : s.size ≤ 1000000) :
    Calls Tryz.prog 225 #[.string s] w (BytsPost (hexR s.data.toList) w) := by
  obtain ⟨i0, hi, hz0, hz1, hz2⟩ := info_parts (show (Tryz.prog.info? 5).map (fun i => (i.zero, i.size, i.bytes)) = some (some (.int .u8 0), 1, 1) by kernel_rfl)
  go_enter Tryz.func225, Tryz.ntmps225
  go_wp2_with fail
  go_loopg [5] s.size (fun gk r wr => ∃ k : Nat, k ≤ s.size ∧ gk + k = s.size ∧ Hid (Hexs s k) ∧ wr = w.iter s k)
  case atStart => exact ⟨0, Nat.zero_le _, by omega, hide (fun i _ h => by omega), rfl⟩
  case round =>
    obtain ⟨k, hk, hgk, hdg, rfl⟩ := hrel
    have HG := hide hgk
    clear hgk
    by_cases hlt : k < s.size
    · have hnx : ∀ ty, (Instr.next (.pointer (some ⟨w.heap.size, 0, none⟩)) true ty).run Tryz.prog (w.iter s k) = _ := fun ty => run_next_any w s k ty hlt
      cases hd : hexB s[k] with
      | true =>
        rw [decode_hex s k hlt hd] at hnx
        have hge : ¬ signV (s[k].toNat : Int) < 0 := by have := of_decide_eq_true hd; omega
        have HS := hide (hexs_succ hdg.out hlt hd)
        clear hd
        go_wp2_with (go_at_call 242; refine (sign_any _ _).mono ?_; rintro e w' ⟨rfl, rfl⟩)
        go_roundg (gk - 1)
        case rel => exact ⟨k + 1, by omega, by have := HG.out; omega, HS, rfl⟩
        case measure => have := HG.out; omega
      | false =>
        have hb := decode_nohex s k hlt hd
        have HR := hide (hexR_bad s k hlt hd)
        have hr := decode_le s k
        clear hd
        generalize Utf8.decode s k = d at *
        obtain ⟨r, n⟩ := d
        simp only at hb hr hnx
        go_wp2_with (go_at_call 242; refine (sign_any _ _).mono ?_; rintro e w' ⟨rfl, rfl⟩)
        go_ret2
        exact byts_nil HR.out (only_iter w s _)
    · obtain rfl : k = s.size := by omega
      have hnx : ∀ ty, (Instr.next (.pointer (some ⟨w.heap.size, 0, none⟩)) true ty).run Tryz.prog (w.iter s s.size) = _ := fun ty => run_next_end w s s.size ty hlt
      have HX := hide hdg.out
      by_cases hodd : s.size % 2 = 1
      · have HR := hide (hexR_odd hdg.out hodd)
        have ho2 : (((s.size : Int) % 2) != 0) = true := by rw [bne_iff_ne]; omega
        clear hodd
        go_wp2_with fail
        go_ret2
        exact byts_nil HR.out (only_iter w s _)
      · have HR := hide (hexR_even hdg.out (by omega))
        have ho2 : (((s.size : Int) % 2) != 0) = false := by rw [bne_eq_false_iff_eq]; omega
        have HEV := hide (show s.size % 2 = 0 by omega)
        obtain ⟨m, hm⟩ : ∃ m, s.size = 2 * m := ⟨s.size / 2, by omega⟩
        have hm2 : (s.size : Int) / 2 = (m : Int) := by omega
        have hmk : ∀ W, (Instr.makeSlice 37 (.int .i64 0) (.int .i64 ((s.size : Int) / 2))).run Tryz.prog W = .ok (.slice (some ⟨W.heap.size, 0, none⟩) 0 m) (W.alloc (.cells (Array.replicate m (.int .u8 0)) 5)) := by
          intro W
          rw [hm2]
          exact run_make_row W 37 5 i0 _ Tryz.underlying37 hi hz0 hz1 rfl .i64 .i64 0 m (Nat.zero_le _) (by rw [hz2]; omega) (by omega)
        have HM := hide hm
        have HOW := hide (World.ownsRow_made (base := w.heap.size) (w.iter s s.size) (Array.replicate m (.int .u8 0)) m (by simp [World.iter]) (by unfold maxLen; omega) (e := 5) (size := 1) (by simp))
        have HO := hide ((only_iter w s s.size).alloc (.cells (Array.replicate m (.int .u8 0)) 5))
        clear hodd hm hm2
        go_wp2_with fail
        obtain ⟨w0, hw0⟩ : ∃ w0, w0 = (w.iter s s.size).alloc (.cells (Array.replicate m (.int .u8 0)) 5) := ⟨_, rfl⟩
        rw [← hw0] at HOW HO ⊢
        have hsz : w.heap.size ≤ w0.heap.size := HO.out.size
        clear hw0 hmk ho2
        go_loopw [6, 7] (fun v i wr => ∃ j k : Nat, k ≤ s.size ∧ Hid (k = 2 * j) ∧ i = .int .i64 k ∧ Hid (wr.ownsRow w.heap.size 5 1 v j (ints .u8 (byts (hexP (s.data.toList.take k))))) ∧ Hid (Only [] w wr)) (fun _ i _ => s.size - (intOf i).toNat)
        case atStart => exact ⟨0, 0, Nat.zero_le _, hide rfl, rfl, HOW, HO⟩
        case round =>
          obtain ⟨j, k, hk, hkj, rfl, how, ho⟩ := hrel
          by_cases hlt : k < s.size
          · have hlt1 : k + 1 < s.size := by have := hkj.out; have := HM.out; omega
            have hltI : (k : Int) < s.size := by omega
            have hlt1I : (k : Int) + 1 < s.size := by omega
            have hw1 : IntKind.i64.wrap ((k : Int) + 1) = (k : Int) + 1 := IntWalk.i64_in _ (by omega)
            have h0 : (0 : Int) ≤ (k : Int) + 1 := by omega
            have ht : ((k : Int) + 1).toNat = k + 1 := by omega
            have hx := sign_nib (HX.out k hlt hlt)
            have hy := sign_nib (HX.out (k + 1) hlt1 hlt1)
            obtain ⟨x, hxx⟩ : ∃ x, x = nib s[k] := ⟨_, rfl⟩
            obtain ⟨y, hyy⟩ : ∃ y, y = nib s[k + 1] := ⟨_, rfl⟩
            obtain ⟨z, hzz⟩ : ∃ z, z = 16 * x + y := ⟨_, rfl⟩
            have hx16 : x < 16 := by rw [hxx]; exact nib_lt _
            have hy16 : y < 16 := by rw [hyy]; exact nib_lt _
            have hor := or_nib x y hx16 hy16
            rw [← hzz] at hor
            have HZ := hide (show z = 16 * nib s[k] + nib s[k + 1] by rw [hzz, hxx, hyy])
            rw [← hxx] at hx
            rw [← hyy] at hy
            have hb1 := byte_lt s[k]
            have hb2 := byte_lt s[k + 1]
            have hwa : IntKind.i32.wrap (s[k].toNat : Int) = s[k].toNat := by rw [IntKind.wrap_i32]; omega
            have hwb : IntKind.i32.wrap (s[k + 1].toNat : Int) = s[k + 1].toNat := by rw [IntKind.wrap_i32]; omega
            have hws : IntKind.i64.wrap ((x : Int) * 16) = (x : Int) * 16 := IntWalk.i64_in _ (by omega)
            have hwu : IntKind.u8.wrap (z : Int) = (z : Int) := by rw [IntKind.wrap_u8]; omega
            obtain ⟨Av, cv, rfl, hjc, hcm⟩ := own_form how.out
            have hj : j < 1000000 := by have := hkj.out; omega
            clear hxx hyy hzz hb1 hb2
            have HOW2 := hide (World.ownsRow.alloc (own_only how.out ((Only.refl [] wr).drew) (by simp)) (.cells #[.int .u8 (z : Int)] 5))
            have HO2 := hide (ho.out.drew.alloc (.cells #[.int .u8 (z : Int)] 5))
            have HRN := hide (reads_one wr.drew 5 (.int .u8 (z : Int)) (wr.heap.size + 1) (Nat.lt_succ_self _))
            have HSZ := hide ho.out.size
            go_upto_region 12 with (fail)
            go_region_held3 (fun _ => True) (exact trivial)
              (first
              | (go_at_call 242; refine (sign_any _ _).mono ?_; rintro e w' ⟨rfl, rfl⟩)
              | (refine step_append_any _ rfl (.tmp 30) (.tmp 45) 37 rfl w.heap.size 5 i0 (.int .u8 0) 1 1 Tryz.underlying37 hi hz0 hz1 hz2 rfl (by decide) _ j _ rfl HOW2.out _ _ 1 1 [.int .u8 (z : Int)] rfl HRN.out (by simp [Value.oneCell']) (by unfold maxLen; omega) (by omega) (by have := HSZ.out; simp; omega) ?_; intro v1 w3 hown1 hg1 _; have HOW3 := hide (one_hex hown1 hkj.out hlt1 HZ.out); have HO3 := hide (HO2.out.grown hg1 (fun j hj => .inr (own_block_ge HOW2.out hj))); clear hown1 hg1))
            all_goals
              go_wp2_with fail
              go_roundw
              case rel => exact ⟨j + 1, k + 2, by omega, hide (by have := hkj.out; omega), by go_num, HOW3, HO3⟩
              case measure => simp [intOf]; omega
          · obtain rfl : k = s.size := by omega
            have hge : ¬ (s.size : Int) < s.size := by omega
            have HRD := hide (rd_whole how.out)
            go_wp2_with fail
            go_ret2
            exact byts_some HR.out ho.out HRD.out
end
section
open Go.RowKit Go.Deep

/-- The number of a kind that a word tells. -/
def numK (k : Int) (l : List UInt8) : Option Nat := if (numR l).2 = 0 ∧ allowedV k (numR l).1 = true then some (numR l).1 else none
def gtB (a b : ByteArray) : Bool := !(Op.bytesLess a.toList b.toList || a.toList == b.toList)
/-- A term that was read: kind, number, bytes, parts. -/
abbrev Nd := Int × Nat × List UInt8 × List ByteArray
def rdEnd (s : ByteArray) (k : Int) (n : Nat) (parts : List ByteArray) (p : Nat) : Option (Nd × Nat) :=
  if peekV s p 41 = true then (if fitsV k parts.length = true then some ((k, n, [], parts), p + 1) else none) else none
/-- Read from p on: a term (none), or the parts of a term, some of which are read (some). -/
def rd (s : ByteArray) : Nat → Option (Int × Nat × List ByteArray) → Nat → Option (Nd × Nat)
  | 0, _, _ => none
  | f + 1, none, p =>
    if h : p < s.size then
      if kindV s[p].toNat = 0 then none
      else if kindV s[p].toNat = 1 then some ((1, 0, [], []), p + 1)
      else if kindV s[p].toNat = 2 ∨ kindV s[p].toNat = 3 then
        match numK (kindV s[p].toNat) (s.extract (p + 1) (wend s (p + 1))).data.toList with
        | none => none
        | some n => some ((kindV s[p].toNat, n, [], []), wend s (p + 1))
      else if kindV s[p].toNat = 4 then
        if (hexR (s.extract (p + 1) (wend s (p + 1))).data.toList).2 = 0 then some ((4, 0, (hexR (s.extract (p + 1) (wend s (p + 1))).data.toList).1, []), wend s (p + 1)) else none
      else if peekV s (p + 1) 40 = false then none
      else if numberedV (kindV s[p].toNat) = true then
        match numK (kindV s[p].toNat) (s.extract (p + 2) (wend s (p + 2))).data.toList with
        | none => none
        | some n =>
          if peekV s (wend s (p + 2)) 44 = false then none
          else if peekV s (wend s (p + 2) + 1) 41 = true then rdEnd s (kindV s[p].toNat) n [] (wend s (p + 2) + 1)
          else rd s f (some (kindV s[p].toNat, n, [])) (wend s (p + 2) + 1)
      else if peekV s (p + 2) 41 = true then rdEnd s (kindV s[p].toNat) 0 [] (p + 2)
      else rd s f (some (kindV s[p].toNat, 0, [])) (p + 2)
    else none
  | f + 1, some (k, n, parts), p =>
    match rd s f none p with
    | none => none
    | some (_, q) =>
      if k = 6 ∧ parts.length = 1 ∧ gtB (parts.getLastD ByteArray.empty) (s.extract p q) = true then none
      else if peekV s q 44 = true then rd s f (some (k, n, parts ++ [s.extract p q])) (q + 1)
      else rdEnd s k n (parts ++ [s.extract p q]) q

def NumberPost (g : Nat) (s : ByteArray) (p : Nat) (r : Option Nat) (w : World) (e : Ending) (w' : World) : Prop :=
  match r with
  | none => Fault [g] w e w'
  | some n => e = .returned (.int .u64 n) ∧ At g s (wend s p) w' ∧ Only [g] w w' ∧ n < 18446744073709551616
theorem number_no {g : Nat} {s : ByteArray} {p : Nat} {r : Option Nat} {w w' : World} (h : r = none) (ho : Only [g] w w') : NumberPost g s p r w (.panicked [{ v := .iface 281 (.agg #[]), recovered := false }]) w' := by
  subst h; exact ⟨rfl, ho⟩
theorem number_yes {g : Nat} {s : ByteArray} {p n : Nat} {r : Option Nat} {w w' : World} (h : r = some n) (hb : At g s (wend s p) w') (ho : Only [g] w w') (hn : n < 18446744073709551616) : NumberPost g s p r w (.returned (.int .u64 n)) w' := by
  subst h; exact ⟨rfl, hb, ho, hn⟩
theorem extract_size (s : ByteArray) (p q : Nat) : (s.extract p q).size ≤ s.size := by
  rw [ByteArray.size_extract]; omega

set_option maxRecDepth 100000 in
set_option maxHeartbeats 1600000 in
theorem number_any (w : World) (g : Nat) (s : ByteArray) (p : Nat) (k : Int) (hb : At g s p w) (hp : p ≤ s.size) (hs : s.size ≤ 1000000) :
    Calls Tryz.prog 224 #[.pointer (some ⟨g, 0, none⟩), .int .i64 k] w (NumberPost g s p (numK k (s.extract p (wend s p)).data.toList) w) := by
  have HW := hide (word_any w g s p hb hp (by unfold maxLen; omega))
  have hx := extract_size s p (wend s p)
  generalize hq : wend s p = q at *
  have HQ := hide hq
  clear hq
  generalize ht : s.extract p q = t at *
  have HT := hide ht
  clear ht hb
  have HN := hide (fun W => num_read W t)
  have HA := hide (fun W n => allowed_any k n W)
  have hr := numR_lt t.data.toList
  have HK := hide (show numK k t.data.toList = if (numR t.data.toList).2 = 0 ∧ allowedV k (numR t.data.toList).1 = true then some (numR t.data.toList).1 else none from rfl)
  generalize numR t.data.toList = r at *
  obtain ⟨u, c⟩ := r
  simp only at hr HK
  cases hc : ((c : Int) != 0) with
  | true =>
    have HR := hide (show numK k t.data.toList = none by rw [HK.out, if_neg]; rintro ⟨a, _⟩; subst a; simp at hc)
    go_enter Tryz.func224, Tryz.ntmps224
    go_wp2_with (first
      | (go_at_call 226; refine HW.out.mono ?_; rintro e w1 ⟨rfl, hb1, ho1⟩; rw [HQ.out, HT.out]; have HO1 := hide ho1; clear hb1 ho1)
      | (go_at_call 241; refine (HN.out _ (by omega)).mono ?_; rintro e w2 ⟨rfl, ho2⟩; have HO2 := hide (HO1.out.trans (ho2.mono (by simp))); clear ho2))
    exact ⟨rfl, number_no HR.out HO2.out⟩
  | false =>
    have hc0 : c = 0 := by simpa using hc
    cases ha : allowedV k u with
    | false =>
      have HR := hide (show numK k t.data.toList = none by rw [HK.out, if_neg]; rintro ⟨_, a⟩; rw [ha] at a; cases a)
      have HAL := hide ha
      have HC0 := hide hc0
      clear ha hc0
      go_enter Tryz.func224, Tryz.ntmps224
      go_wp2_with (first
        | (go_at_call 226; refine HW.out.mono ?_; rintro e w1 ⟨rfl, hb1, ho1⟩; rw [HQ.out, HT.out]; have HO1 := hide ho1; clear hb1 ho1)
        | (go_at_call 241; refine (HN.out _ (by omega)).mono ?_; rintro e w2 ⟨rfl, ho2⟩; have HO2 := hide (HO1.out.trans (ho2.mono (by simp))); clear ho2)
        | (go_at_call 186; refine (HA.out _ _).mono ?_; rintro e w3 ⟨rfl, rfl⟩; rw [HAL.out]))
      exact ⟨rfl, number_no HR.out HO2.out⟩
    | true =>
      have HR := hide (show numK k t.data.toList = some u by rw [HK.out, if_pos ⟨hc0, ha⟩])
      have HAL := hide ha
      have HC0 := hide hc0
      have HU := hide hr
      clear ha hc0 hr
      go_enter Tryz.func224, Tryz.ntmps224
      go_wp2_with (first
        | (go_at_call 226; refine HW.out.mono ?_; rintro e w1 ⟨rfl, hb1, ho1⟩; rw [HQ.out, HT.out]; have HO1 := hide ho1; have HB1 := hide hb1; clear hb1 ho1)
        | (go_at_call 241; refine (HN.out _ (by omega)).mono ?_; rintro e w2 ⟨rfl, ho2⟩; have HO2 := hide (HO1.out.trans (ho2.mono (by simp))); have HB2 := hide (show At g s q w2 from by have h := HB1.out; rw [HQ.out] at h; exact Blk.only h ho2 (by simp)); clear ho2)
        | (go_at_call 186; refine (HA.out _ _).mono ?_; rintro e w3 ⟨rfl, rfl⟩; rw [HAL.out]))
      go_ret
      exact number_yes HR.out (by rw [HQ.out]; exact HB2.out) HO2.out HU.out
end
section

/-- As Q; by a goto to label l: J l. -/
def jumps (J : Nat → Act → World → Prop) (Q : Exit → Act → World → Prop) : Exit → Act → World → Prop
  | .goto l, a, w => J l a w
  | e, a, w => Q e a w

section
variable {P : Program} {a : Act} {w : World} {Q : Exit → Act → World → Prop}
theorem wp_scope_labels {c : Code} (R : Nat → Code) (J : Nat → Act → World → Prop) (μ : Nat → Act → World → Nat) (hf : ∀ l a w, J l a w → findLabel c l = some (R l))
    (first : c.wp P (jumps J Q) a w)
    (pass : ∀ l a w, J l a w → (R l).wp P (jumps (fun l' a' w' => J l' a' w' ∧ μ l' a' w' < μ l a w) Q) a w) : (Code.scope c).wp P Q a w := by
  intro b k cs
  have hg : ∀ l a w, J l a w → gotoIn l (.inScope c :: k) = some (.code (R l) :: .inScope c :: k) := fun l a w h => by simp [gotoIn, hf l a w h]
  have key : ∀ n l a w, μ l a w = n → J l a w → ∃ e a' w', Q e a' w' ∧ Arrives P (lone (b.at a (.code (R l) :: .inScope c :: k)) cs w) b k cs e a' w' := by
    intro n
    induction n using Nat.strongRecOn with
    | _ n ih =>
      intro l a w hn hJ
      obtain ⟨e, a₁, w₁, hq, harr⟩ := pass l a w hJ b (.inScope c :: k) cs
      cases e with
      | normal => exact ⟨.normal, a₁, w₁, hq, Steps.trans harr (.one step_inScope)⟩
      | exit id => exact ⟨.exit id, a₁, w₁, hq, fun k' hk => harr k' (by simp [exitTo, hk])⟩
      | goto l' =>
        obtain ⟨hJ', hlt⟩ := hq
        obtain ⟨e₂, a₂, w₂, hq₂, harr₂⟩ := ih _ (by omega) l' a₁ w₁ rfl hJ'
        exact ⟨e₂, a₂, w₂, hq₂, .of_steps (harr _ (hg l' a₁ w₁ hJ')) harr₂⟩
      | ret => exact ⟨_, a₁, w₁, hq, harr⟩
      | panic ch => exact ⟨_, a₁, w₁, hq, harr⟩
      | outgrown => exact ⟨_, a₁, w₁, hq, harr⟩
  obtain ⟨e, a₁, w₁, hq, harr⟩ := first b (.inScope c :: k) cs
  cases e with
  | normal => exact ⟨.normal, a₁, w₁, hq, .head step_scope (Steps.trans harr (.one step_inScope))⟩
  | exit id => exact ⟨.exit id, a₁, w₁, hq, fun k' hk => .head step_scope (harr k' (by simp [exitTo, hk]))⟩
  | goto l' =>
    have hJ' : J l' a₁ w₁ := hq
    obtain ⟨e₂, a₂, w₂, hq₂, harr₂⟩ := key _ l' a₁ w₁ rfl hJ'
    exact ⟨e₂, a₂, w₂, hq₂, .of_steps (.head step_scope (harr _ (hg l' a₁ w₁ hJ'))) harr₂⟩
  | ret => exact ⟨_, a₁, w₁, hq, .of_steps (.one step_scope) harr⟩
  | panic ch => exact ⟨_, a₁, w₁, hq, .of_steps (.one step_scope) harr⟩
  | outgrown => exact ⟨_, a₁, w₁, hq, .of_steps (.one step_scope) harr⟩
/-- Two labels, 0 and 1. -/
def two (J0 J1 : Act → World → Prop) : Nat → Act → World → Prop
  | 0 => J0
  | 1 => J1
  | _ => fun _ _ => False
def two' (M0 M1 : Act → World → Nat) : Nat → Act → World → Nat
  | 0 => M0
  | _ => M1
def two'' (R0 R1 : Code) : Nat → Code
  | 0 => R0
  | _ => R1
theorem wp_mono {c : Code} {Q' : Exit → Act → World → Prop} (h : c.wp P Q a w) (hq : ∀ e a w, Q e a w → Q' e a w) : c.wp P Q' a w := by
  intro b k cs
  obtain ⟨e, a', w', h1, h2⟩ := h b k cs
  exact ⟨e, a', w', hq _ _ _ h1, h2⟩
theorem wp_skipped {c : Code} (h : c.wp P Q a w) : (Code.skip.seq c).wp P Q a w := wp_seq (wp_skip h)
/-- Both labels' rests are proved once: the way to label 1, and label 1's own rest, may fall through to them. -/
theorem wp_scope_two {c R0 R1 : Code} (J0 J1 : Act → World → Prop) (M1 : Act → World → Nat) (h0 : findLabel c 0 = some (Code.skip.seq R0)) (h1 : findLabel c 1 = some (Code.skip.seq R1))
    (first : (∀ J a w, J0 a w → R0.wp P (jumps J Q) a w) → (∀ a w, J1 a w → R1.wp P (jumps (two J0 J1) Q) a w) → c.wp P (jumps (two J0 J1) Q) a w)
    (pass0 : ∀ a w, J0 a w → R0.wp P (jumps (fun _ _ _ => False) Q) a w)
    (pass1 : (∀ J a w, J0 a w → R0.wp P (jumps J Q) a w) → ∀ a w, J1 a w → R1.wp P (jumps (fun l' a' w' => two J0 J1 l' a' w' ∧ two' (fun _ _ => 0) M1 l' a' w' < M1 a w) Q) a w) : (Code.scope c).wp P Q a w := by
  have p0 : ∀ J a w, J0 a w → R0.wp P (jumps J Q) a w := fun J a w h => wp_mono (pass0 a w h) fun e a' w' hq => by
    cases e <;> first | exact hq | exact hq.elim
  refine wp_scope_labels (two'' (Code.skip.seq R0) (Code.skip.seq R1)) (two J0 J1) (two' (fun _ _ => 0) M1) ?_ (first p0 fun a w h => wp_mono (pass1 p0 a w h) fun e a' w' hq => ?_) ?_
  · rintro (_ | _ | l) a w h
    · exact h0
    · exact h1
    · cases h
  · cases e <;> first | exact hq | exact hq.1
  · rintro (_ | _ | l) a w h
    · exact wp_skipped (p0 _ a w h)
    · exact wp_skipped (pass1 p0 a w h)
    · cases h
end
/-- A frame of n slots, as its slots. -/
theorem act_frame (n : Nat) (a : Act) (hs : a.tmps.size = n) (hd : a.defers = []) : a = ⟨((List.range n).map fun i => a.tmps.getD i undef).toArray, []⟩ := by
  obtain ⟨t, d⟩ := a
  simp only at hs hd
  subst hd
  congr 1
  apply Array.ext
  · simp [hs]
  · intro i h1 h2
    simp at h2
    simp [Array.getD_eq_getD_getElem?, Array.getElem?_eq_getElem h1]
end
section
open Go.RowKit Go.Deep

theorem rdEnd_bd {s : ByteArray} {k : Int} {n : Nat} {parts : List ByteArray} {p q : Nat} {r : Nd} (h : rdEnd s k n parts p = some (r, q)) : q = p + 1 ∧ q ≤ s.size := by
  unfold rdEnd at h
  split at h
  · rename_i hp
    split at h
    · simp only [Option.some.injEq, Prod.mk.injEq] at h
      refine ⟨h.2.symm, ?_⟩
      unfold peekV at hp
      split at hp
      · omega
      · cases hp
    · cases h
  · cases h
theorem peek_lt {s : ByteArray} {p : Nat} {c : Int} (h : peekV s p c = true) : p < s.size := by
  unfold peekV at h
  split at h
  · assumption
  · cases h
theorem rd_bd (s : ByteArray) : ∀ (f : Nat) (m : Option (Int × Nat × List ByteArray)) (p : Nat) (r : Nd) (q : Nat), rd s f m p = some (r, q) → p < q ∧ q ≤ s.size := by
  intro f
  induction f with
  | zero => intro m p r q h; simp [rd] at h
  | succ f ih =>
    intro m p r q h
    cases m with
    | none =>
      rw [rd] at h
      split at h
      · rename_i hp
        have w1 := wend_ge s (p + 1)
        have w2 := wend_le s (p + 1) (by omega)
        repeat' split at h
        all_goals first
          | (cases h; done)
          | (simp only [Option.some.injEq, Prod.mk.injEq] at h; omega)
          | (have h1 := rdEnd_bd h
             have w3 := wend_ge s (p + 2)
             omega)
          | (have h1 := ih _ _ _ _ h
             have w3 := wend_ge s (p + 2)
             omega)
      · cases h
    | some kp =>
      obtain ⟨k, n, parts⟩ := kp
      rw [rd] at h
      split at h
      · cases h
      · rename_i nd q1 hq
        have h1 := ih _ _ _ _ hq
        split at h
        · cases h
        · split at h
          · have h2 := ih _ _ _ _ h
            omega
          · have h2 := rdEnd_bd h
            omega
theorem rd_some (s : ByteArray) (f : Nat) (k : Int) (n : Nat) (parts : List ByteArray) (p : Nat) : rd s (f + 1) (some (k, n, parts)) p =
    match rd s f none p with
    | none => none
    | some (_, q) =>
      if k = 6 ∧ parts.length = 1 ∧ gtB (parts.getLastD ByteArray.empty) (s.extract p q) = true then none
      else if peekV s q 44 = true then rd s f (some (k, n, parts ++ [s.extract p q])) (q + 1)
      else rdEnd s k n (parts ++ [s.extract p q]) q := rfl
def strs (l : List ByteArray) : List Value := l.map Value.string
theorem strs_snoc (l : List ByteArray) (x : ByteArray) : strs l ++ [.string x] = strs (l ++ [x]) := by simp [strs]
theorem strs_length (l : List ByteArray) : (strs l).length = l.length := by simp [strs]
/-- What read hands back. -/
def ReadPost (g : Nat) (s : ByteArray) (keep : Bool) (r : Option (Nd × Nat)) (w : World) (e : Ending) (w' : World) : Prop :=
  match r with
  | none => Fault [g] w e w'
  | some (nd, q) => ∃ bv pv, e = .returned (.agg #[.int .i64 nd.1, .int .u64 nd.2.1, bv, pv]) ∧ At g s q w' ∧ Only [g] w w' ∧ (∀ N : List Nat, (∀ x ∈ N, x < w.heap.size) → Rd w' N bv (ints .u8 (byts nd.2.2.1))) ∧
      (keep = true → ∀ N : List Nat, (∀ x ∈ N, x < w.heap.size) → Rd w' N pv (strs nd.2.2.2))
/-- The term that is being read lies in block b; its parts so far. -/
def Parts (b : Nat) (k : Int) (n : Nat) (bv : Value) (keep : Bool) (parts : List ByteArray) (w w' : World) : Prop :=
  ∃ A l c, Blk w' b 199 #[.int .i64 k, .int .u64 n, bv, .slice A l c] ∧ (if keep = true then w'.ownsRow w.heap.size 9 1 (.slice A l c) parts.length (strs parts) else A = none ∧ l = 0 ∧ c = 0)
def RestPost (g b : Nat) (s : ByteArray) (bv : Value) (keep : Bool) (r : Option (Nd × Nat)) (w : World) (e : Ending) (w' : World) : Prop :=
  match r with
  | none => Fault [g, b] w e w'
  | some (nd, q) => e = .returned (.tuple #[]) ∧ At g s q w' ∧ Only [g, b] w w' ∧ Parts b nd.1 nd.2.1 bv keep nd.2.2.2 w w'
def TSaid (s : ByteArray) (f : Nat) : Prop := ∀ (w : World) (g p : Nat) (keep : Bool), At g s p w → p ≤ s.size → s.size ≤ 1000000 → 2 * (s.size - p) + 1 ≤ f →
  Calls Tryz.prog 183 #[.pointer (some ⟨g, 0, none⟩), .bool keep] w (ReadPost g s keep (rd s f none p) w)
def RSaid (s : ByteArray) (f : Nat) : Prop := ∀ (w : World) (g b p : Nat) (k : Int) (n : Nat) (bv : Value) (keep : Bool), At g s p w → g ≠ b → Blk w b 199 #[.int .i64 k, .int .u64 n, bv, .slice none 0 0] → p ≤ s.size → s.size ≤ 1000000 →
  2 * (s.size - p) + 2 ≤ f →
  Calls Tryz.prog 228 #[.pointer (some ⟨g, 0, none⟩), .pointer (some ⟨b, 0, none⟩), .bool keep] w (RestPost g b s bv keep (if peekV s p 41 = true then rdEnd s k n [] p else rd s f (some (k, n, [])) p) w)
theorem rest_no {g b : Nat} {s : ByteArray} {bv : Value} {keep : Bool} {r : Option (Nd × Nat)} {w w' : World} (h : r = none) (ho : Only [g, b] w w') : RestPost g b s bv keep r w (.panicked [{ v := .iface 281 (.agg #[]), recovered := false }]) w' := by
  subst h; exact ⟨rfl, ho⟩
theorem rest_yes {g b : Nat} {s : ByteArray} {bv : Value} {keep : Bool} {r : Option (Nd × Nat)} {w w' : World} {k : Int} {n q : Nat} {bs : List UInt8} {parts : List ByteArray} (h : r = some ((k, n, bs, parts), q)) (ha : At g s q w') (ho : Only [g, b] w w') (hp : Parts b k n bv keep parts w w') :
    RestPost g b s bv keep r w (.returned (.tuple #[])) w' := by
  subst h; exact ⟨rfl, ha, ho, hp⟩
end
end Go.Proofs.YtcokjoidpnfjhaaGreatDoor

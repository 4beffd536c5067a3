/-
  Walks and plain words for PairLimits (texts Num4, Hex, Np1, Laid, Ret, Wa, Wb, Tm4, Scope, Tm5). No condition beyond those that each theorem states.
-/
import Derived.Test.YtfipdjlalfpbnaaDoorShelf
import Derived.Lib.ItoaMem
import Derived.Test.YtfipdjlalfpbnaaDoorRows
import Derived.Lib.LaidTab
import Derived.Deep.DeepLaidRun
import Derived.Stop.LaidErr
import Derived.LaidMore
import Derived.Test.YtfipdjlalfpbnaaDoorChecked
import Derived.Deep.RegionHeld3
import Derived.ScopeJumps
import Derived.Test.YtfipdjlalfpbnaaDoorP01
namespace Go.Proofs.YtfipdjlalfpbnaaDoor
section
open Go.RowKit Go.Deep

theorem ofInt_i64 (a : Nat) (ha : a < 9223372036854775808) : (BitVec.ofInt 64 (a : Int)).toNat = a := by
  rw [BitVec.ofInt_natCast, BitVec.toNat_ofNat]; exact Nat.mod_eq_of_lt (by omega)
theorem i64_or_nat (a b : Nat) (ha : a < 9223372036854775808) (hb : b < 9223372036854775808) : bits .or .i64 (a : Int) (b : Int) = ((a ||| b : Nat) : Int) := by
  have hx : a ||| b < 2 ^ 63 := Nat.or_lt_two_pow (by omega) (by omega)
  show IntKind.i64.wrap ((BitVec.ofInt 64 (a : Int) ||| BitVec.ofInt 64 (b : Int)).toNat : Int) = _
  rw [BitVec.toNat_or, ofInt_i64 a ha, ofInt_i64 b hb, IntKind.wrap_i64]
  omega
theorem or_nib (x y : Nat) (hx : x < 16) (hy : y < 16) : bits .or .i64 ((x : Int) * 16) (y : Int) = ((16 * x + y : Nat) : Int) := by
  have h := i64_or_nat (16 * x) y (by omega) (by omega)
  have e : 16 * x ||| y = 16 * x + y := (Nat.two_pow_add_eq_or_of_lt (i := 4) hy x).symm
  rw [e] at h
  rw [← h, show ((16 * x : Nat) : Int) = (x : Int) * 16 by omega]
theorem ints_snoc_list (k : IntKind) (l m : List Int) : ints k l ++ ints k m = ints k (l ++ m) := by simp [ints]
theorem byts_some {r : List UInt8 × Nat} {l : List UInt8} {c : Nat} {v : Value} {w w' : World} (h : r = (l, c)) (ho : Only [] w w') (hr : ∀ N : List Nat, (∀ x ∈ N, x < w.heap.size) → Rd w' N v (ints .u8 (byts l))) : BytsPost r w (.returned (.tuple #[v, .int .i64 c])) w' := by
  subst h; exact ⟨_, rfl, ho, hr⟩
theorem rd_whole {w' : World} {B e j : Nat} {v : Value} {s : ByteArray} (h : w'.ownsRow B e 1 v j (ints .u8 (byts (hexP (s.data.toList.take s.size))))) : ∀ N : List Nat, (∀ x ∈ N, x < B) → Rd w' N v (ints .u8 (byts (hexP s.data.toList))) := by
  intro N hN
  have h1 := (Rd.of_own h hN).1
  rwa [show s.data.toList.take s.size = s.data.toList from List.take_of_length_le (Nat.le_of_eq rfl)] at h1
theorem one_hex {v : Value} {w' : World} {B e j k : Nat} {s : ByteArray} {z : Nat} (h : w'.ownsRow B e 1 v (j + 1) (ints .u8 (byts (hexP (s.data.toList.take k))) ++ [.int .u8 (z : Int)])) (hk : k = 2 * j) (hlt : k + 1 < s.size)
    (hz : z = 16 * nib s[k] + nib s[k + 1]) : w'.ownsRow B e 1 v (j + 1) (ints .u8 (byts (hexP (s.data.toList.take (k + 2))))) := by
  subst hk
  have e := hexP_take s j (by omega)
  rw [show 2 * (j + 1) = 2 * j + 2 by omega] at e
  rw [e, byts_append, ← ints_snoc_list]
  have hb : byts [UInt8.ofNat (16 * nib s[2 * j] + nib s[2 * j + 1])] = [(z : Int)] := by
    unfold byts
    simp only [List.map_cons, List.map_nil, UInt8.toNat_ofNat']
    have h1 := nib_lt s[2 * j]
    have h2 := nib_lt s[2 * j + 1]
    rw [← hz, Nat.mod_eq_of_lt (by omega)]
  rw [hb]
  exact h

set_option maxRecDepth 100000 in
set_option maxHeartbeats 6400000 in
theorem num_readhex (w : World) (s : ByteArray) (hs : s.size ≤ 1000000) :
    Calls Tryd.prog 97 #[.string s] w (BytsPost (hexR s.data.toList) w) := by
  obtain ⟨i0, hi, hz0, hz1, hz2⟩ := info_parts (show (Tryd.prog.info? 5).map (fun i => (i.zero, i.size, i.bytes)) = some (some (.int .u8 0), 1, 1) by kernel_rfl)
  go_enter Tryd.func97, Tryd.ntmps97
  go_wp2_with fail
  go_loopg [5] s.size (fun gk r wr => ∃ k : Nat, k ≤ s.size ∧ gk + k = s.size ∧ Hid (Hexs s k) ∧ wr = w.iter s k)
  case atStart => exact ⟨0, Nat.zero_le _, by omega, hide (fun i _ h => by omega), rfl⟩
  case round =>
    obtain ⟨k, hk, hgk, hdg, rfl⟩ := hrel
    have HG := hide hgk
    clear hgk
    by_cases hlt : k < s.size
    · have hnx : ∀ ty, (Instr.next (.pointer (some ⟨w.heap.size, 0, none⟩)) true ty).run Tryd.prog (w.iter s k) = _ := fun ty => run_next_any w s k ty hlt
      cases hd : hexB s[k] with
      | true =>
        rw [decode_hex s k hlt hd] at hnx
        have hge : ¬ signV (s[k].toNat : Int) < 0 := by have := of_decide_eq_true hd; omega
        have HS := hide (hexs_succ hdg.out hlt hd)
        clear hd
        go_wp2_with (go_at_call 106; refine (sign_any _ _).mono ?_; rintro e w' ⟨rfl, rfl⟩)
        go_roundg (gk - 1)
        case rel => exact ⟨k + 1, by omega, by have := HG.out; omega, HS, rfl⟩
        case measure => have := HG.out; omega
      | false =>
        have hb := decode_nohex s k hlt hd
        have HR := hide (hexR_bad s k hlt hd)
        have hr := decode_le s k
        clear hd
        generalize Utf8.decode s k = d at *
        obtain ⟨r, n⟩ := d
        simp only at hb hr hnx
        go_wp2_with (go_at_call 106; refine (sign_any _ _).mono ?_; rintro e w' ⟨rfl, rfl⟩)
        go_ret2
        exact byts_nil HR.out (only_iter w s _)
    · obtain rfl : k = s.size := by omega
      have hnx : ∀ ty, (Instr.next (.pointer (some ⟨w.heap.size, 0, none⟩)) true ty).run Tryd.prog (w.iter s s.size) = _ := fun ty => run_next_end w s s.size ty hlt
      have HX := hide hdg.out
      by_cases hodd : s.size % 2 = 1
      · have HR := hide (hexR_odd hdg.out hodd)
        have ho2 : (((s.size : Int) % 2) != 0) = true := by rw [bne_iff_ne]; omega
        clear hodd
        go_wp2_with fail
        go_ret2
        exact byts_nil HR.out (only_iter w s _)
      · have HR := hide (hexR_even hdg.out (by omega))
        have ho2 : (((s.size : Int) % 2) != 0) = false := by rw [bne_eq_false_iff_eq]; omega
        have HEV := hide (show s.size % 2 = 0 by omega)
        obtain ⟨m, hm⟩ : ∃ m, s.size = 2 * m := ⟨s.size / 2, by omega⟩
        have hm2 : (s.size : Int) / 2 = (m : Int) := by omega
        have hmk : ∀ W, (Instr.makeSlice 38 (.int .i64 0) (.int .i64 ((s.size : Int) / 2))).run Tryd.prog W = .ok (.slice (some ⟨W.heap.size, 0, none⟩) 0 m) (W.alloc (.cells (Array.replicate m (.int .u8 0)) 5)) := by
          intro W
          rw [hm2]
          exact run_make_row W 38 5 i0 _ Tryd.underlying38 hi hz0 hz1 rfl .i64 .i64 0 m (Nat.zero_le _) (by rw [hz2]; omega) (by omega)
        have HM := hide hm
        have HOW := hide (World.ownsRow_made (base := w.heap.size) (w.iter s s.size) (Array.replicate m (.int .u8 0)) m (by simp [World.iter]) (by unfold maxLen; omega) (e := 5) (size := 1) (by simp))
        have HO := hide ((only_iter w s s.size).alloc (.cells (Array.replicate m (.int .u8 0)) 5))
        clear hodd hm hm2
        go_wp2_with fail
        obtain ⟨w0, hw0⟩ : ∃ w0, w0 = (w.iter s s.size).alloc (.cells (Array.replicate m (.int .u8 0)) 5) := ⟨_, rfl⟩
        rw [← hw0] at HOW HO ⊢
        have hsz : w.heap.size ≤ w0.heap.size := HO.out.size
        clear hw0 hmk ho2
        go_loopw [6, 7] (fun v i wr => ∃ j k : Nat, k ≤ s.size ∧ Hid (k = 2 * j) ∧ i = .int .i64 k ∧ Hid (wr.ownsRow w.heap.size 5 1 v j (ints .u8 (byts (hexP (s.data.toList.take k))))) ∧ Hid (Only [] w wr)) (fun _ i _ => s.size - (intOf i).toNat)
        case atStart => exact ⟨0, 0, Nat.zero_le _, hide rfl, rfl, HOW, HO⟩
        case round =>
          obtain ⟨j, k, hk, hkj, rfl, how, ho⟩ := hrel
          by_cases hlt : k < s.size
          · have hlt1 : k + 1 < s.size := by have := hkj.out; have := HM.out; omega
            have hltI : (k : Int) < s.size := by omega
            have hlt1I : (k : Int) + 1 < s.size := by omega
            have hw1 : IntKind.i64.wrap ((k : Int) + 1) = (k : Int) + 1 := IntWalk.i64_in _ (by omega)
            have h0 : (0 : Int) ≤ (k : Int) + 1 := by omega
            have ht : ((k : Int) + 1).toNat = k + 1 := by omega
            have hx := sign_nib (HX.out k hlt hlt)
            have hy := sign_nib (HX.out (k + 1) hlt1 hlt1)
            obtain ⟨x, hxx⟩ : ∃ x, x = nib s[k] := ⟨_, rfl⟩
            obtain ⟨y, hyy⟩ : ∃ y, y = nib s[k + 1] := ⟨_, rfl⟩
            obtain ⟨z, hzz⟩ : ∃ z, z = 16 * x + y := ⟨_, rfl⟩
            have hx16 : x < 16 := by rw [hxx]; exact nib_lt _
            have hy16 : y < 16 := by rw [hyy]; exact nib_lt _
            have hor := or_nib x y hx16 hy16
            rw [← hzz] at hor
            have HZ := hide (show z = 16 * nib s[k] + nib s[k + 1] by rw [hzz, hxx, hyy])
            rw [← hxx] at hx
            rw [← hyy] at hy
            have hb1 := byte_lt s[k]
            have hb2 := byte_lt s[k + 1]
            have hwa : IntKind.i32.wrap (s[k].toNat : Int) = s[k].toNat := by rw [IntKind.wrap_i32]; omega
            have hwb : IntKind.i32.wrap (s[k + 1].toNat : Int) = s[k + 1].toNat := by rw [IntKind.wrap_i32]; omega
            have hws : IntKind.i64.wrap ((x : Int) * 16) = (x : Int) * 16 := IntWalk.i64_in _ (by omega)
            have hwu : IntKind.u8.wrap (z : Int) = (z : Int) := by rw [IntKind.wrap_u8]; omega
            obtain ⟨Av, cv, rfl, hjc, hcm⟩ := own_form how.out
            have hj : j < 1000000 := by have := hkj.out; omega
            clear hxx hyy hzz hb1 hb2
            have HOW2 := hide (World.ownsRow.alloc (own_only how.out ((Only.refl [] wr).drew) (by simp)) (.cells #[.int .u8 (z : Int)] 5))
            have HO2 := hide (ho.out.drew.alloc (.cells #[.int .u8 (z : Int)] 5))
            have HRN := hide (reads_one wr.drew 5 (.int .u8 (z : Int)) (wr.heap.size + 1) (Nat.lt_succ_self _))
            have HSZ := hide ho.out.size
            go_upto_region 12 with (fail)
            go_region_held3 (fun _ => True) (exact trivial)
              (first
              | (go_at_call 106; refine (sign_any _ _).mono ?_; rintro e w' ⟨rfl, rfl⟩)
              | (refine step_append_any _ rfl (.tmp 30) (.tmp 45) 38 rfl w.heap.size 5 i0 (.int .u8 0) 1 1 Tryd.underlying38 hi hz0 hz1 hz2 rfl (by decide) _ j _ rfl HOW2.out _ _ 1 1 [.int .u8 (z : Int)] rfl HRN.out (by simp [Value.oneCell']) (by unfold maxLen; omega) (by omega) (by have := HSZ.out; simp; omega) ?_; intro v1 w3 hown1 hg1 _; have HOW3 := hide (one_hex hown1 hkj.out hlt1 HZ.out); have HO3 := hide (HO2.out.grown hg1 (fun j hj => .inr (own_block_ge HOW2.out hj))); clear hown1 hg1))
            all_goals
              go_wp2_with fail
              go_roundw
              case rel => exact ⟨j + 1, k + 2, by omega, hide (by have := hkj.out; omega), by go_num, HOW3, HO3⟩
              case measure => simp [intOf]; omega
          · obtain rfl : k = s.size := by omega
            have hge : ¬ (s.size : Int) < s.size := by omega
            have HRD := hide (rd_whole how.out)
            go_wp2_with fail
            go_ret2
            exact byts_some HR.out ho.out HRD.out
end
section
open Go.RowKit Go.Deep

def hd (n : Nat) : UInt8 := if n < 10 then UInt8.ofNat (48 + n) else UInt8.ofNat (87 + n)
theorem hd_nat (n : Nat) (h : n < 16) : (hd n).toNat = if n < 10 then 48 + n else 87 + n := by
  unfold hd; split <;> simp [UInt8.toNat_ofNat'] <;> omega
def hexS : List UInt8 → List UInt8
  | [] => []
  | b :: r => hd (b.toNat / 16) :: hd (b.toNat % 16) :: hexS r
theorem hexS_append : ∀ l m : List UInt8, hexS (l ++ m) = hexS l ++ hexS m
  | [], m => rfl
  | b :: r, m => by simp only [List.cons_append, hexS, hexS_append r m]
theorem hexS_length : ∀ l : List UInt8, (hexS l).length = 2 * l.length
  | [] => rfl
  | b :: r => by simp only [hexS, List.length_cons, hexS_length r]; omega
theorem dig_at (n : Nat) (h : n < 16) (W : World) : (Instr.index 9 (.string ⟨#[48, 49, 50, 51, 52, 53, 54, 55, 56, 57, 97, 98, 99, 100, 101, 102]⟩) (.int .u8 (n : Int))).run Tryd.prog W = .ok (.int .u8 ((hd n).toNat : Int)) W := by
  rcases (show n = 0 ∨ n = 1 ∨ n = 2 ∨ n = 3 ∨ n = 4 ∨ n = 5 ∨ n = 6 ∨ n = 7 ∨ n = 8 ∨ n = 9 ∨ n = 10 ∨ n = 11 ∨ n = 12 ∨ n = 13 ∨ n = 14 ∨ n = 15 by omega) with rfl | rfl | rfl | rfl | rfl | rfl | rfl | rfl | rfl | rfl | rfl | rfl | rfl | rfl | rfl | rfl
  all_goals kernel_rfl
theorem reads_two (w : World) (e : TypeId) (x y : Value) (B : Nat) (hB : w.heap.size < B) : Reads (w.alloc (.cells #[x, y] e)) B 1 (some ⟨w.heap.size, 0, none⟩) 2 [x, y] :=
  ⟨rfl, fun _ => ⟨_, rfl, hB, fun j u hu => by
    rw [add_mk, Nat.zero_add, (Blk.new w e #[x, y]).cell j]
    simpa using hu⟩⟩
theorem take_snoc_l {α : Type} (l : List α) (k : Nat) (x : α) (h : l[k]? = some x) : l.take (k + 1) = l.take k ++ [x] := by
  rw [List.take_add_one, h]; rfl
theorem two_hex {v : Value} {w' : World} {B e k : Nat} {l : List UInt8} {c : UInt8} (h : w'.ownsRow B e 1 v (2 * k + 2) (ints .u8 (byts (hexS (l.take k))) ++ [.int .u8 ((hd (c.toNat / 16)).toNat : Int), .int .u8 ((hd (c.toNat % 16)).toNat : Int)])) (hc : l[k]? = some c) :
    w'.ownsRow B e 1 v (2 * (k + 1)) (ints .u8 (byts (hexS (l.take (k + 1))))) := by
  rw [take_snoc_l l k c hc, hexS_append, byts_append, ← ints_snoc_list]
  exact h
def StrPost (l : List UInt8) (w : World) (e : Ending) (w' : World) : Prop := e = .returned (.string ⟨l.toArray⟩) ∧ Only [] w w'
theorem strpost {l m : List UInt8} {w w' : World} (h : l = m) (ho : Only [] w w') : StrPost l w (.returned (.string ⟨m.toArray⟩)) w' := by subst h; exact ⟨rfl, ho⟩

set_option maxRecDepth 100000 in
set_option maxHeartbeats 6400000 in
theorem num_hex (w : World) (N : List Nat) (v : Value) (l : List UInt8) (hv : Rd w N v (ints .u8 (byts l))) (hl : l.length ≤ 1000000) :
    Calls Tryd.prog 77 #[v] w (StrPost (hexS l) w) := by
  obtain ⟨A, cap, rfl, hcap, hmx⟩ := hv.formb
  have HV := hide hv
  obtain ⟨n, hn⟩ : ∃ n, n = l.length := ⟨_, rfl⟩
  have HN := hide hn
  rw [← hn] at hcap HV hl ⊢
  clear hv hn
  obtain ⟨i0, hi, hz0, hz1, hz2⟩ := info_parts (show (Tryd.prog.info? 5).map (fun i => (i.zero, i.size, i.bytes)) = some (some (.int .u8 0), 1, 1) by kernel_rfl)
  have hwl : IntKind.i64.wrap (2 * (n : Int)) = 2 * (n : Int) := IntWalk.i64_in _ (by omega)
  have hmk : ∀ W, (Instr.makeSlice 38 (.int .i64 0) (.int .i64 (2 * (n : Int)))).run Tryd.prog W = .ok (.slice (some ⟨W.heap.size, 0, none⟩) 0 (2 * n)) (W.alloc (.cells (Array.replicate (2 * n) (.int .u8 0)) 5)) := by
    intro W
    exact run_make_row W 38 5 i0 _ Tryd.underlying38 hi hz0 hz1 rfl .i64 .i64 0 (2 * n) (Nat.zero_le _) (by rw [hz2]; omega) (by omega)
  have HOW := hide (World.ownsRow_made (base := w.heap.size) w (Array.replicate (2 * n) (.int .u8 0)) (2 * n) (Nat.le_refl _) (by unfold maxLen; omega) (e := 5) (size := 1) (by simp))
  have HO := hide ((Only.refl [] w).alloc (.cells (Array.replicate (2 * n) (.int .u8 0)) 5))
  go_enter Tryd.func77, Tryd.ntmps77
  go_wp2_with fail
  obtain ⟨w0, hw0⟩ : ∃ w0, w0 = w.alloc (.cells (Array.replicate (2 * n) (.int .u8 0)) 5) := ⟨_, rfl⟩
  rw [← hw0] at HOW HO ⊢
  have hsz : w.heap.size ≤ w0.heap.size := HO.out.size
  clear hw0 hmk hwl
  go_loopw [3, 12] (fun v i wr => ∃ k : Nat, k ≤ n ∧ i = .int .i64 k ∧ Hid (wr.ownsRow w.heap.size 5 1 v (2 * k) (ints .u8 (byts (hexS (l.take k))))) ∧ Hid (Only [] w wr)) (fun _ i _ => n - (intOf i).toNat)
  case atStart => exact ⟨0, Nat.zero_le _, rfl, HOW, HO⟩
  case round =>
    obtain ⟨k, hk, rfl, how, ho⟩ := hrel
    by_cases hlt : k < n
    · have hlt' : (k : Int) < n := by omega
      have hkl : k < l.length := by rw [← HN.out]; exact hlt
      obtain ⟨c, hc⟩ : ∃ c, l[k]? = some c := ⟨l[k], List.getElem?_eq_getElem hkl⟩
      have HC := hide hc
      obtain ⟨g, o, rfl, _, hg, hcell⟩ := HV.out.at_.2.2.2 k (.int .u8 (c.toNat : Int)) (ints_get (byts_get hc))
      have c1 : wr.cell? ⟨g, o + k, none⟩ = some (.int .u8 (c.toNat : Int)) := (cell_only ho.out hg (by simp)).trans hcell
      have hc256 := c.toNat_lt
      have hcI : (c.toNat : Int) < 256 := by omega
      have hA := fun W => dig_at (c.toNat / 16) (by omega) W
      have hB := fun W => dig_at (c.toNat % 16) (by omega) W
      rw [show ((c.toNat / 16 : Nat) : Int) = (c.toNat : Int) / 16 by omega] at hA
      rw [show ((c.toNat % 16 : Nat) : Int) = (c.toNat : Int) % 16 by omega] at hB
      have hband : bits .and .u8 (c.toNat : Int) 15 = (c.toNat : Int) % 16 := u8_and15 _ (by omega) (by omega)
      obtain ⟨Av, cv, rfl, hjc, hcm⟩ := own_form how.out
      have HSZ := hide ho.out.size
      obtain ⟨x, hx⟩ : ∃ x, x = (hd (c.toNat / 16)).toNat := ⟨_, rfl⟩
      obtain ⟨y, hy⟩ : ∃ y, y = (hd (c.toNat % 16)).toNat := ⟨_, rfl⟩
      rw [← hx] at hA
      rw [← hy] at hB
      have HX := hide hx
      have HY := hide hy
      have HOW2 := hide (World.ownsRow.alloc (own_only how.out ((Only.refl [] wr).drew) (by simp)) (.cells #[.int .u8 (x : Int), .int .u8 (y : Int)] 5))
      have HO2 := hide (ho.out.drew.alloc (.cells #[.int .u8 (x : Int), .int .u8 (y : Int)] 5))
      have HRN := hide (reads_two wr.drew 5 (.int .u8 (x : Int)) (.int .u8 (y : Int)) (wr.heap.size + 1) (Nat.lt_succ_self _))
      clear hc hcell hx hy
      go_upto_region 5 with (fail)
      go_region_held3 (fun _ => True) (exact trivial)
        (first
        | (refine step_append_any _ rfl (.tmp 16) (.tmp 23) 38 rfl w.heap.size 5 i0 (.int .u8 0) 1 1 Tryd.underlying38 hi hz0 hz1 hz2 rfl (by decide) _ (2 * k) _ rfl HOW2.out _ _ 2 2 [.int .u8 (x : Int), .int .u8 (y : Int)] rfl HRN.out (by simp [Value.oneCell']) (by unfold maxLen; omega) (by omega) (by have := HSZ.out; simp; omega) ?_; intro v1 w3 hown1 hg1 _; rw [HX.out, HY.out] at hown1; have HOW3 := hide (two_hex hown1 HC.out); have HO3 := hide (HO2.out.grown hg1 (fun j hj => .inr (own_block_ge HOW2.out hj))); clear hown1 hg1))
      all_goals
        go_wp2_with fail
        go_roundw
        case rel => exact ⟨k + 1, by omega, by go_num, HOW3, HO3⟩
        case measure => simp [intOf]; omega
    · obtain rfl : k = n := by omega
      have hge : ¬ (k : Int) < k := by omega
      obtain ⟨Av, cv, rfl, hjc, hcm⟩ := own_form how.out
      have HRD := hide (Rd.of_own (N := []) how.out (by simp)).1
      rw [List.take_of_length_le (Nat.le_of_eq HN.out.symm)] at HRD
      have hcv := rd_string (P := Tryd.prog) HRD.out 38 9 5 Tryd.underlying38 Tryd.underlying5 Tryd.underlying9
      go_wp2_with fail
      go_ret
      exact strpost rfl ho.out
end
section
open Go.RowKit Go.Deep Go.Sort Go.Lib

/-- The table of powers of ten, as laid. -/
def Tab (w : World) : Prop := Lib.TabIs Tryd.prog w "internal/strconv.uint64pow10" .u64 Lib.pow10Tab
theorem Tab.only {S : List Nat} {w w' : World} (h : Tab w) (ho : Only S w w') (hS : ∀ x ∈ S, w.heap.size ≤ x) : Tab w' := by
  unfold Tab Lib.TabIs at h ⊢
  unfold World.var? at h ⊢
  cases hg : Tryd.prog.globalNamed "internal/strconv.uint64pow10" with
  | none => rw [hg] at h; simp at h
  | some g =>
    rw [hg] at h
    simp only [Option.bind_some] at h ⊢
    have hlt : g < w.heap.size := by
      rcases Nat.lt_or_ge g w.heap.size with h' | h'
      · exact h'
      · rw [Array.getElem?_eq_none h'] at h; simp at h
    rw [ho.block g hlt (fun hx => by have := hS g hx; omega)]
    exact h

theorem only_grow (w : World) (os : Array Obj) : Only [] w (grow w os) := ⟨rfl, rfl, rfl, by simp [grow], fun i hi _ => by simp [grow, Array.getElem?_append_left hi]⟩
theorem holds_zero0 (w : World) (T : TypeId) (nd : Nat) (hs : nd ≤ 24) : Holds (fun (b : UInt8) => Value.int .u8 (b.toNat : Int)) (w.alloc (.cells Lib.zeros24 T)) w.heap.size 0 (Array.replicate nd (0 : UInt8)) := fun j hj => by
  have hj' : j < nd := by simpa using hj
  refine ⟨?_, World.frozen?_alloc_new _ _ _ _⟩
  rw [World.cell?_alloc_new, Nat.zero_add, Lib.zeros24_at _ (by omega), getElem!_pos _ j hj]
  simp

set_option maxHeartbeats 6400000 in
set_option maxRecDepth 100000 in
theorem format_uint (u : Nat) (hu64 : u < 18446744073709551616) (w : World) (htab : Tab w) :
    Calls Tryd.prog 109 #[.int .u64 u, .int .i64 10] w (StrPost (Lib.decDigits u) w) := by
  by_cases hs : u < 100
  · have hs' : (u : Int) < 100 := by omega
    go_enter Tryd.func109, Tryd.ntmps109
    go_wp2_with (go_at_call 110; refine (Tryd.internal_strconv_small u hs _).mono ?_; rintro e w' ⟨rfl, rfl⟩)
    go_ret
    exact strpost rfl (Only.refl _ _)
  · have hs' : ¬ (u : Int) < 100 := by omega
    have hu1 : 1 ≤ u := by omega
    have hnd20 : Lib.nDigits u ≤ 20 := by have := Lib.numDigits_eq u hu1 hu64; split at this <;> omega
    have hal : Tryd.prog.arrayLen 169 = 24 := by kernel_rfl
    have hsl1 : ∀ W, (Instr.sliceAt 169 (.pointer (some ⟨w.heap.size, 0, none⟩)) none (some (.int .i64 (Lib.nDigits u : Int))) none).run Tryd.prog W = .ok (.slice (some ⟨w.heap.size, 0, none⟩) (Lib.nDigits u) 24) W := fun W => by
      rw [run_sliceAt_array_h W 169 ⟨w.heap.size, 0, none⟩ (by simp [Program.arrayLen, Program.elem, Tryd.underlying169]) .i64 (Lib.nDigits u : Int) (by omega) (by rw [hal]; omega)]
      go_simp
    have hH0 := holds_zero0 w 169 (Lib.nDigits u) (by omega)
    have hfmt := Tryd.internal_strconv_formatBase10 w.heap.size 0 24 u (Array.replicate (Lib.nDigits u) 0) (w.alloc (.cells Lib.zeros24 169)) hH0 (by rw [Array.size_replicate]; exact Lib.lt_pow_nDigits u) hu64 (by rw [Array.size_replicate]; omega)
    rw [Array.size_replicate] at hfmt
    have HH0 := Lib.hid hH0
    have HT := Lib.hid (Lib.tabIs_alloc htab (.cells Lib.zeros24 169))
    clear hH0 hal htab
    go_enter Tryd.func109, Tryd.ntmps109
    go_wp2_with (go_at_call 111; refine (Tryd.internal_strconv_numDigits u hu1 hu64 _ HT.out).mono ?_; rintro e w' ⟨rfl, rfl⟩)
    refine hfmt.mono ?_
    rintro e w' ⟨rfl, k, v', dk, hw', hF⟩
    have hcv : (convert 38 9 (.slice (some ⟨w.heap.size, 0, none⟩) (Lib.nDigits u) 24)).run Tryd.prog w' = .ok (.string ⟨(Lib.decDigits u).toArray⟩) w' := by
      have h := run_convert_bytes_back (P := Tryd.prog) w' 38 9 5 ⟨w.heap.size, 0, none⟩ 24 (Lib.decDigits u) Tryd.underlying38 Tryd.underlying5 Tryd.underlying9 (fun j hj => by
        rw [Lib.row_is_numeral hF j hj, Lib.add_plain, hw', World.cell?_drewN]
        exact cell?_putRow (fun (b : UInt8) => Value.int .u8 (b.toNat : Int)) _ w.heap.size 0 _ dk HH0.out (by rw [hF.size, Array.size_replicate]) j (by rw [hF.size]; rw [Lib.decDigits_length] at hj; exact hj))
      rw [Lib.decDigits_length] at h
      exact h
    have HO := hide (show Only [] w w' by
      rw [hw', alloc_eq_grow]
      obtain ⟨os', _, e⟩ := putRow_grow_new (fun (b : UInt8) => Value.int .u8 (b.toNat : Int)) w #[.cells Lib.zeros24 169] w.heap.size 0 dk (Nat.le_refl _)
      rw [e]
      exact (only_grow w os').drewN k)
    clear hw' hF hfmt
    go_wp2_with fail
    go_ret
    exact strpost rfl HO.out

set_option maxHeartbeats 1600000 in
theorem print_any (u : Nat) (hu64 : u < 18446744073709551616) (w : World) (htab : Tab w) :
    Calls Tryd.prog 76 #[.int .u64 u] w (StrPost (Lib.decDigits u) w) := by
  have HF := hide (format_uint u hu64 w htab)
  clear hu64 htab
  go_enter Tryd.func76, Tryd.ntmps76
  go_wp2_with (first
    | (go_at_call 109; refine HF.out.mono ?_; rintro e w1 ⟨rfl, ho⟩; have HO := hide ho; clear ho)
    | go_in)
  go_ret
  exact strpost rfl HO.out
end
section
open Go.RowKit Go.ChangeShapes Go.WideShapes Go.ChangeAt

theorem own_all : ownKnob Tryd.prog.godebug = none := by kernel_rfl
abbrev laidAll : List (String × DataW Unit) := [("math/bits.deBruijn32tab", Rows.laid_math_bits_deBruijn32tab), ("math/bits.deBruijn64tab", Rows.laid_math_bits_deBruijn64tab), ("internal/strconv.uint64pow10", Rows.laid_internal_strconv_uint64pow10)]

theorem tab_of_laid {W : World} (h : laidMetH Tryd.prog laidAll W) : Tab W := by
  rw [MakeChecks.laidMetH_plain _ _ _ (by kernel_rfl)] at h
  exact Lib.tabIs_of_head (g := 0) (t := 176) (e := 22) (n := 20) (rest := []) (by kernel_rfl) (by kernel_rfl) Tryd.underlying176 Tryd.underlying22 (by kernel_rfl) (by kernel_rfl) (laidMet.tail (laidMet.tail h))

theorem door_met (os : Os) (args : Array Value) : laidMetH Tryd.prog laidAll ((World.doorLaid Tryd.prog 400 os).forCall (fun _ _ => 0) ⟨#[], args, []⟩).memory := by
  rw [MakeChecks.laidMetH_plain _ _ _ (by kernel_rfl)]
  exact laidMet_of_run3 8 (by kernel_rfl) (by kernel_rfl) (by kernel_rfl)
end
section
open Go.RowKit Go.Deep

def RetB (r : Bool) (w : World) (e : Ending) (w' : World) : Prop := e = .returned (.bool r) ∧ Only [] w w'
theorem retb {r s : Bool} {w w' : World} (h : r = s) (ho : Only [] w w') : RetB r w (.returned (.bool s)) w' := by subst h; exact ⟨rfl, ho⟩
theorem results_cell_two {P : Program} {fn : Func} {p q : Tmp} {ty : TypeId} (h : fn.results = #[.cell p ty, .tmp q]) (tmps : Array Value) (w : World) (g : Nat) (t : TypeId) (cs : Array Value) (fr : Nat × Nat) (d : TypeDesc)
    (hp : tmps.getD p undef = .pointer (some ⟨g, 0, none⟩)) (hg : w.heap[g]? = some (.cells cs t fr))
    (hu : P.underlying ty = some d) (hd : (match d with | .struct _ | .array _ _ => true | _ => false) = true) (hi : (P.info? ty).map (·.size) = some cs.size) :
    (results fn tmps).run P w = .ok (.tuple #[.agg cs, tmps.getD q undef]) w := by
  have hp' : tmps[p]?.getD undef = .pointer (some ⟨g, 0, none⟩) := by simpa using hp
  simp [results, h, hp', asAddr, run_loadVar_row w g t ty cs fr d hg hu hd hi]
end
section
open Go.RowKit Go.Deep

/-- A function without captured places, as a value. -/
abbrev fnV (f : FuncId) : Value := .func (.func f) #[] #[]
/-- A field of four bytes, whose place is told by the closure in the block b. -/
abbrev numF (b : Nat) : Value := .agg #[.int .i64 4, .func (.func 103) #[] #[.pointer (some ⟨b, 0, none⟩)], .func (.func 104) #[] #[.pointer (some ⟨b, 0, none⟩)], .nilFunc]
def numC (b : Nat) : List Value := [.int .i64 4, .func (.func 103) #[] #[.pointer (some ⟨b, 0, none⟩)], .func (.func 104) #[] #[.pointer (some ⟨b, 0, none⟩)], .nilFunc]

set_option maxHeartbeats 1600000 in
theorem wnumber_any (f : FuncId) (w : World) : Calls Tryd.prog 79 #[fnV f] w fun e w' => e = .returned (numF w.heap.size) ∧ Blk w' w.heap.size 150 #[fnV f] ∧ w.heap.size < w'.heap.size ∧ Only [] w w' := by
  have hst := fun (W : World) (a : Addr) (fn : Fn) (c : Array Value) => (run_store Tryd.prog W a (.func fn #[] c) .plain rfl : (store a (.func fn #[] c)).run Tryd.prog W = stored Tryd.prog W a (.func fn #[] c) .plain)
  have hsn := fun (W : World) (a : Addr) => (run_store Tryd.prog W a .nilFunc .plain rfl : (store a .nilFunc).run Tryd.prog W = stored Tryd.prog W a .nilFunc .plain)
  have HB := hide ((Blk.new w 150 #[fnV f]).alloc (.cells (numC w.heap.size).toArray 104))
  have HF := hide (Blk.new (w.alloc (.cells #[fnV f] 150)) 104 (numC w.heap.size).toArray)
  rw [World.size_alloc] at HF
  have HO := hide (((Only.refl [] w).alloc (.cells #[fnV f] 150)).alloc (.cells (numC w.heap.size).toArray 104))
  go_enter Tryd.func79, Tryd.ntmps79
  go_wp2
  refine bodyPost_ret (results_cell_row rfl _ _ (w.heap.size + 1) 104 _ (0, 0) _ rfl HF.out Tryd.underlying104 rfl (by kernel_rfl)) rfl ?_
  exact ⟨rfl, HB.out, (by simp; omega), HO.out⟩
set_option maxRecDepth 100000 in
theorem numget1 (M b : Nat) (x : Nat) (w : World) (h : w.cell? ⟨b, 0, none⟩ = some (fnV 80)) (h2 : w.cell? ⟨M, 1, none⟩ = some (.int .u32 x)) (hx : x < 4294967296) :
    Calls Tryd.prog 103 #[.pointer (some ⟨M, 0, none⟩), .pointer (some ⟨b, 0, none⟩)] w fun e w' => e = .returned (.int .u64 x) ∧ w = w' := by
  have hw : IntKind.u64.wrap (x : Int) = x := by rw [IntKind.wrap_u64]; omega
  clear hx
  go_enter Tryd.func103, Tryd.ntmps103
  go_wp2
  go_ret
  exact ⟨rfl, rfl⟩
set_option maxRecDepth 100000 in
theorem numset1 (M b : Nat) (x : Nat) (w : World) (h : w.cell? ⟨b, 0, none⟩ = some (fnV 80)) {y : Nat} (h2 : w.cell? ⟨M, 1, none⟩ = some (.int .u32 y)) (hf : w.frozen? ⟨M, 1, none⟩ = false) (hx : x < 4294967296) :
    Calls Tryd.prog 104 #[.pointer (some ⟨M, 0, none⟩), .int .u64 x, .pointer (some ⟨b, 0, none⟩)] w fun e w' => e = .returned (.tuple #[]) ∧ w' = w.setCell ⟨M, 1, none⟩ (.int .u32 x) := by
  have hw : IntKind.u32.wrap (x : Int) = x := by rw [IntKind.wrap_u32]; omega
  clear hx
  go_enter Tryd.func104, Tryd.ntmps104
  go_wp2
  go_end0
  exact ⟨rfl, rfl⟩
set_option maxRecDepth 100000 in
theorem numget2 (M b : Nat) (x : Nat) (w : World) (h : w.cell? ⟨b, 0, none⟩ = some (fnV 81)) (h2 : w.cell? ⟨M, 2, none⟩ = some (.int .u32 x)) (hx : x < 4294967296) :
    Calls Tryd.prog 103 #[.pointer (some ⟨M, 0, none⟩), .pointer (some ⟨b, 0, none⟩)] w fun e w' => e = .returned (.int .u64 x) ∧ w = w' := by
  have hw : IntKind.u64.wrap (x : Int) = x := by rw [IntKind.wrap_u64]; omega
  clear hx
  go_enter Tryd.func103, Tryd.ntmps103
  go_wp2
  go_ret
  exact ⟨rfl, rfl⟩
set_option maxRecDepth 100000 in
theorem numset2 (M b : Nat) (x : Nat) (w : World) (h : w.cell? ⟨b, 0, none⟩ = some (fnV 81)) {y : Nat} (h2 : w.cell? ⟨M, 2, none⟩ = some (.int .u32 y)) (hf : w.frozen? ⟨M, 2, none⟩ = false) (hx : x < 4294967296) :
    Calls Tryd.prog 104 #[.pointer (some ⟨M, 0, none⟩), .int .u64 x, .pointer (some ⟨b, 0, none⟩)] w fun e w' => e = .returned (.tuple #[]) ∧ w' = w.setCell ⟨M, 2, none⟩ (.int .u32 x) := by
  have hw : IntKind.u32.wrap (x : Int) = x := by rw [IntKind.wrap_u32]; omega
  clear hx
  go_enter Tryd.func104, Tryd.ntmps104
  go_wp2
  go_end0
  exact ⟨rfl, rfl⟩
theorem place4 (M : Nat) (w : World) : Calls Tryd.prog 82 #[.pointer (some ⟨M, 0, none⟩)] w fun e w' => e = .returned (.pointer (some ⟨M, 4, none⟩)) ∧ w = w' := by
  go_enter Tryd.func82, Tryd.ntmps82
  go_wp2
  go_ret
  exact ⟨rfl, rfl⟩
theorem place11 (M : Nat) (w : World) : Calls Tryd.prog 83 #[.pointer (some ⟨M, 0, none⟩)] w fun e w' => e = .returned (.pointer (some ⟨M, 11, none⟩)) ∧ w = w' := by
  go_enter Tryd.func83, Tryd.ntmps83
  go_wp2
  go_ret
  exact ⟨rfl, rfl⟩
theorem place12 (M : Nat) (w : World) : Calls Tryd.prog 84 #[.pointer (some ⟨M, 0, none⟩)] w fun e w' => e = .returned (.pointer (some ⟨M, 12, none⟩)) ∧ w = w' := by
  go_enter Tryd.func84, Tryd.ntmps84
  go_wp2
  go_ret
  exact ⟨rfl, rfl⟩
theorem place5 (M : Nat) (w : World) : Calls Tryd.prog 85 #[.pointer (some ⟨M, 0, none⟩)] w fun e w' => e = .returned (.pointer (some ⟨M, 5, none⟩)) ∧ w = w' := by
  go_enter Tryd.func85, Tryd.ntmps85
  go_wp2
  go_ret
  exact ⟨rfl, rfl⟩
theorem place6 (M : Nat) (w : World) : Calls Tryd.prog 86 #[.pointer (some ⟨M, 0, none⟩)] w fun e w' => e = .returned (.pointer (some ⟨M, 6, none⟩)) ∧ w = w' := by
  go_enter Tryd.func86, Tryd.ntmps86
  go_wp2
  go_ret
  exact ⟨rfl, rfl⟩
theorem place7 (M : Nat) (w : World) : Calls Tryd.prog 87 #[.pointer (some ⟨M, 0, none⟩)] w fun e w' => e = .returned (.pointer (some ⟨M, 7, none⟩)) ∧ w = w' := by
  go_enter Tryd.func87, Tryd.ntmps87
  go_wp2
  go_ret
  exact ⟨rfl, rfl⟩
theorem place8 (M : Nat) (w : World) : Calls Tryd.prog 88 #[.pointer (some ⟨M, 0, none⟩)] w fun e w' => e = .returned (.pointer (some ⟨M, 8, none⟩)) ∧ w = w' := by
  go_enter Tryd.func88, Tryd.ntmps88
  go_wp2
  go_ret
  exact ⟨rfl, rfl⟩
theorem place9 (M : Nat) (w : World) : Calls Tryd.prog 89 #[.pointer (some ⟨M, 0, none⟩)] w fun e w' => e = .returned (.pointer (some ⟨M, 9, none⟩)) ∧ w = w' := by
  go_enter Tryd.func89, Tryd.ntmps89
  go_wp2
  go_ret
  exact ⟨rfl, rfl⟩
theorem place10 (M : Nat) (w : World) : Calls Tryd.prog 92 #[.pointer (some ⟨M, 0, none⟩)] w fun e w' => e = .returned (.pointer (some ⟨M, 10, none⟩)) ∧ w = w' := by
  go_enter Tryd.func92, Tryd.ntmps92
  go_wp2
  go_ret
  exact ⟨rfl, rfl⟩
set_option maxHeartbeats 1600000 in
theorem cntget (M : Nat) (x : Nat) (w : World) (h2 : w.cell? ⟨M, 3, none⟩ = some (.int .u64 x)) :
    Calls Tryd.prog 90 #[.pointer (some ⟨M, 0, none⟩)] w fun e w' => e = .returned (.int .u64 x) ∧ w = w' := by
  go_enter Tryd.func90, Tryd.ntmps90
  go_wp2
  go_ret
  exact ⟨rfl, rfl⟩
theorem cntset (M : Nat) (x : Nat) (w : World) {y : Nat} (h2 : w.cell? ⟨M, 3, none⟩ = some (.int .u64 y)) (hf : w.frozen? ⟨M, 3, none⟩ = false) :
    Calls Tryd.prog 91 #[.pointer (some ⟨M, 0, none⟩), .int .u64 x] w fun e w' => e = .returned (.tuple #[]) ∧ w' = w.setCell ⟨M, 3, none⟩ (.int .u64 x) := by
  go_enter Tryd.func91, Tryd.ntmps91
  go_wp2
  go_end0
  exact ⟨rfl, rfl⟩
end
section
open Go.RowKit Go.Deep

def txtC (f : FuncId) : List Value := [.int .i64 0, .nilFunc, .nilFunc, fnV f]
def cntC : List Value := [.int .i64 8, fnV 90, fnV 91, .nilFunc]
def row1C (b1 _b2 : Nat) : List Value := numC b1 ++ txtC 82 ++ txtC 85 ++ txtC 86 ++ txtC 83 ++ txtC 84
def row2C (b1 b2 : Nat) : List Value := numC b1 ++ numC b2 ++ txtC 82 ++ txtC 87 ++ txtC 83 ++ txtC 84
def row3C (_b1 b2 : Nat) : List Value := numC b2 ++ txtC 88 ++ txtC 89
def row4C (_b1 b2 : Nat) : List Value := numC b2 ++ cntC ++ txtC 92
theorem blk_new' {w : World} {g : Nat} {t : TypeId} {cs : Array Value} (h : g = w.heap.size) : Blk (w.alloc (.cells cs t)) g t cs := h ▸ Blk.new w t cs
/-- What row hands back: a row of fields in a block of its own; the two closures' places. -/
def RowPost (n : Nat) (C : Nat → Nat → List Value) (w : World) (e : Ending) (w' : World) : Prop :=
  ∃ g b1 b2, e = .returned (.slice (some ⟨g, 0, none⟩) n n) ∧ w.heap.size ≤ g ∧ w.heap.size ≤ b1 ∧ w.heap.size ≤ b2 ∧ Blk w' g 104 (C b1 b2).toArray ∧
    Blk w' b1 150 #[fnV 80] ∧ Blk w' b2 150 #[fnV 81] ∧ Only [] w w'
theorem rowpost {n : Nat} {C : Nat → Nat → List Value} {w w' : World} {g b1 b2 : Nat} (h1 : w.heap.size ≤ g) (h2 : w.heap.size ≤ b1) (h3 : w.heap.size ≤ b2) (h4 : Blk w' g 104 (C b1 b2).toArray)
    (h5 : Blk w' b1 150 #[fnV 80]) (h6 : Blk w' b2 150 #[fnV 81]) (h7 : Only [] w w') : RowPost n C w (.returned (.slice (some ⟨g, 0, none⟩) n n)) w' :=
  ⟨g, b1, b2, rfl, h1, h2, h3, h4, h5, h6, h7⟩

set_option maxRecDepth 100000 in
set_option maxHeartbeats 3200000 in
theorem row_1 (w : World) : Calls Tryd.prog 67 #[.int .i64 1] w (RowPost 6 row1C w) := by
  have hst := fun (W : World) (a : Addr) (fn : Fn) (c : Array Value) => (run_store Tryd.prog W a (.func fn #[] c) .plain rfl : (store a (.func fn #[] c)).run Tryd.prog W = stored Tryd.prog W a (.func fn #[] c) .plain)
  have hsn := fun (W : World) (a : Addr) => (run_store Tryd.prog W a .nilFunc .plain rfl : (store a .nilFunc).run Tryd.prog W = stored Tryd.prog W a .nilFunc .plain)
  go_enter Tryd.func67, Tryd.ntmps67
  go_upto_region 10 with (go_at_call 79; refine (wnumber_any _ _).mono ?_; (first
    | (rintro e w1 ⟨rfl, hb1, hs1, ho1⟩; have HS0 : Hid (Blk w1 w.heap.size _ #[fnV 80]) := hide hb1; have HZ := hide hs1; have HF := hide (Blk.new w1 104 (numC w.heap.size).toArray); have HS := hide (HS0.out.alloc (.cells (numC w.heap.size).toArray 104)); have HO := hide (ho1.alloc (.cells (numC w.heap.size).toArray 104)); clear hb1 hs1 ho1)
    | (rintro e w2 ⟨rfl, hb1, hs1, ho1⟩; rw [World.size_alloc] at hb1 hs1; have HR : Hid (Blk w2 (w1.heap.size + 1) _ #[fnV 81]) := hide hb1; have HZ2 := hide hs1; have HS := hide (HS.out.only ho1 (by simp)); have HF := hide (HF.out.only ho1 (by simp)); have HO := hide (HO.out.trans ho1); clear hb1 hs1 ho1)))
  generalize hW : ((((((w2.alloc (.cells #[.int .i64 4, .func (.func 103) #[] #[.pointer (some ⟨w1.heap.size + 1, 0, none⟩)], .func (.func 104) #[] #[.pointer (some ⟨w1.heap.size + 1, 0, none⟩)], .nilFunc] 104)).alloc (.cells #[.int .i64 0, .nilFunc, .nilFunc, .func (.func 82) #[] #[]] 104)).alloc (.cells #[.int .i64 0, .nilFunc, .nilFunc, .func (.func 83) #[] #[]] 104)).alloc (.cells #[.int .i64 0, .nilFunc, .nilFunc, .func (.func 84) #[] #[]] 104)).alloc (.cells #[.int .i64 0, .nilFunc, .nilFunc, .func (.func 85) #[] #[]] 104)).alloc (.cells #[.int .i64 0, .nilFunc, .nilFunc, .func (.func 86) #[] #[]] 104)) = wq at *
  have HW := hide hW
  clear hW
  have HS := hide (show Blk wq w.heap.size _ #[fnV 80] from by rw [← HW.out]; repeat (first | exact HS.out | apply Blk.alloc))
  have HR := hide (show Blk wq (w1.heap.size + 1) _ #[fnV 81] from by rw [← HW.out]; repeat (first | exact HR.out | apply Blk.alloc))
  have HO := hide (show Only [] w wq from by rw [← HW.out]; repeat (first | exact HO.out | apply Only.alloc))
  have HF := hide (show Blk wq w1.heap.size 104 (numC w.heap.size).toArray from by rw [← HW.out]; repeat (first | exact HF.out | apply Blk.alloc))
  have s0 := HF.out.cell 0; have s1 := HF.out.cell 1; have s2 := HF.out.cell 2; have s3 := HF.out.cell 3
  simp [numC] at s0 s1 s2 s3
  have hb : Blk wq (w2.heap.size + 1) 104 #[.int .i64 0, .nilFunc, .nilFunc, .func (.func 82) #[] #[]] := by rw [← HW.out]; repeat (first | exact blk_new' (by simp) | apply Blk.alloc)
  have t10 := hb.cell 0; have t11 := hb.cell 1; have t12 := hb.cell 2; have t13 := hb.cell 3
  clear hb
  simp at t10 t11 t12 t13
  have hb : Blk wq (w2.heap.size + 1 + 1) 104 #[.int .i64 0, .nilFunc, .nilFunc, .func (.func 83) #[] #[]] := by rw [← HW.out]; repeat (first | exact blk_new' (by simp) | apply Blk.alloc)
  have t20 := hb.cell 0; have t21 := hb.cell 1; have t22 := hb.cell 2; have t23 := hb.cell 3
  clear hb
  simp at t20 t21 t22 t23
  have hb : Blk wq (w2.heap.size + 1 + 1 + 1) 104 #[.int .i64 0, .nilFunc, .nilFunc, .func (.func 84) #[] #[]] := by rw [← HW.out]; repeat (first | exact blk_new' (by simp) | apply Blk.alloc)
  have t30 := hb.cell 0; have t31 := hb.cell 1; have t32 := hb.cell 2; have t33 := hb.cell 3
  clear hb
  simp at t30 t31 t32 t33
  have hb : Blk wq (w2.heap.size + 1 + 1 + 1 + 1) 104 #[.int .i64 0, .nilFunc, .nilFunc, .func (.func 85) #[] #[]] := by rw [← HW.out]; repeat (first | exact blk_new' (by simp) | apply Blk.alloc)
  have t40 := hb.cell 0; have t41 := hb.cell 1; have t42 := hb.cell 2; have t43 := hb.cell 3
  clear hb
  simp at t40 t41 t42 t43
  have hb : Blk wq (w2.heap.size + 1 + 1 + 1 + 1 + 1) 104 #[.int .i64 0, .nilFunc, .nilFunc, .func (.func 86) #[] #[]] := by rw [← HW.out]; repeat (first | exact blk_new' (by simp) | apply Blk.alloc)
  have t50 := hb.cell 0; have t51 := hb.cell 1; have t52 := hb.cell 2; have t53 := hb.cell 3
  clear hb
  simp at t50 t51 t52 t53
  clear HW hst hsn
  go_wp2_with fail
  go_ret
  exact rowpost (b1 := w.heap.size) (b2 := w1.heap.size + 1) (by have := HO.out.size; omega) (Nat.le_refl _) (by have := HZ.out; omega) (blk_new' (by simp)) (HS.out.alloc _) (HR.out.alloc _) (HO.out.alloc _)

set_option maxRecDepth 100000 in
set_option maxHeartbeats 3200000 in
theorem row_2 (w : World) : Calls Tryd.prog 67 #[.int .i64 2] w (RowPost 6 row2C w) := by
  have hst := fun (W : World) (a : Addr) (fn : Fn) (c : Array Value) => (run_store Tryd.prog W a (.func fn #[] c) .plain rfl : (store a (.func fn #[] c)).run Tryd.prog W = stored Tryd.prog W a (.func fn #[] c) .plain)
  have hsn := fun (W : World) (a : Addr) => (run_store Tryd.prog W a .nilFunc .plain rfl : (store a .nilFunc).run Tryd.prog W = stored Tryd.prog W a .nilFunc .plain)
  go_enter Tryd.func67, Tryd.ntmps67
  go_upto_region 13 with (go_at_call 79; refine (wnumber_any _ _).mono ?_; (first
    | (rintro e w1 ⟨rfl, hb1, hs1, ho1⟩; have HS0 : Hid (Blk w1 w.heap.size _ #[fnV 80]) := hide hb1; have HZ := hide hs1; have HF := hide (Blk.new w1 104 (numC w.heap.size).toArray); have HS := hide (HS0.out.alloc (.cells (numC w.heap.size).toArray 104)); have HO := hide (ho1.alloc (.cells (numC w.heap.size).toArray 104)); clear hb1 hs1 ho1)
    | (rintro e w2 ⟨rfl, hb1, hs1, ho1⟩; rw [World.size_alloc] at hb1 hs1; have HR : Hid (Blk w2 (w1.heap.size + 1) _ #[fnV 81]) := hide hb1; have HZ2 := hide hs1; have HS := hide (HS.out.only ho1 (by simp)); have HF := hide (HF.out.only ho1 (by simp)); have HO := hide (HO.out.trans ho1); clear hb1 hs1 ho1)))
  generalize hW : (((((w2.alloc (.cells #[.int .i64 4, .func (.func 103) #[] #[.pointer (some ⟨w1.heap.size + 1, 0, none⟩)], .func (.func 104) #[] #[.pointer (some ⟨w1.heap.size + 1, 0, none⟩)], .nilFunc] 104)).alloc (.cells #[.int .i64 0, .nilFunc, .nilFunc, .func (.func 82) #[] #[]] 104)).alloc (.cells #[.int .i64 0, .nilFunc, .nilFunc, .func (.func 83) #[] #[]] 104)).alloc (.cells #[.int .i64 0, .nilFunc, .nilFunc, .func (.func 84) #[] #[]] 104)).alloc (.cells #[.int .i64 0, .nilFunc, .nilFunc, .func (.func 87) #[] #[]] 104)) = wq at *
  have HW := hide hW
  clear hW
  have HS := hide (show Blk wq w.heap.size _ #[fnV 80] from by rw [← HW.out]; repeat (first | exact HS.out | apply Blk.alloc))
  have HR := hide (show Blk wq (w1.heap.size + 1) _ #[fnV 81] from by rw [← HW.out]; repeat (first | exact HR.out | apply Blk.alloc))
  have HO := hide (show Only [] w wq from by rw [← HW.out]; repeat (first | exact HO.out | apply Only.alloc))
  have HF := hide (show Blk wq w1.heap.size 104 (numC w.heap.size).toArray from by rw [← HW.out]; repeat (first | exact HF.out | apply Blk.alloc))
  have s0 := HF.out.cell 0; have s1 := HF.out.cell 1; have s2 := HF.out.cell 2; have s3 := HF.out.cell 3
  simp [numC] at s0 s1 s2 s3
  have hb : Blk wq (w2.heap.size) 104 #[.int .i64 4, .func (.func 103) #[] #[.pointer (some ⟨w1.heap.size + 1, 0, none⟩)], .func (.func 104) #[] #[.pointer (some ⟨w1.heap.size + 1, 0, none⟩)], .nilFunc] := by rw [← HW.out]; repeat (first | exact blk_new' (by simp) | apply Blk.alloc)
  have t00 := hb.cell 0; have t01 := hb.cell 1; have t02 := hb.cell 2; have t03 := hb.cell 3
  clear hb
  simp at t00 t01 t02 t03
  have hb : Blk wq (w2.heap.size + 1) 104 #[.int .i64 0, .nilFunc, .nilFunc, .func (.func 82) #[] #[]] := by rw [← HW.out]; repeat (first | exact blk_new' (by simp) | apply Blk.alloc)
  have t10 := hb.cell 0; have t11 := hb.cell 1; have t12 := hb.cell 2; have t13 := hb.cell 3
  clear hb
  simp at t10 t11 t12 t13
  have hb : Blk wq (w2.heap.size + 1 + 1) 104 #[.int .i64 0, .nilFunc, .nilFunc, .func (.func 83) #[] #[]] := by rw [← HW.out]; repeat (first | exact blk_new' (by simp) | apply Blk.alloc)
  have t20 := hb.cell 0; have t21 := hb.cell 1; have t22 := hb.cell 2; have t23 := hb.cell 3
  clear hb
  simp at t20 t21 t22 t23
  have hb : Blk wq (w2.heap.size + 1 + 1 + 1) 104 #[.int .i64 0, .nilFunc, .nilFunc, .func (.func 84) #[] #[]] := by rw [← HW.out]; repeat (first | exact blk_new' (by simp) | apply Blk.alloc)
  have t30 := hb.cell 0; have t31 := hb.cell 1; have t32 := hb.cell 2; have t33 := hb.cell 3
  clear hb
  simp at t30 t31 t32 t33
  have hb : Blk wq (w2.heap.size + 1 + 1 + 1 + 1) 104 #[.int .i64 0, .nilFunc, .nilFunc, .func (.func 87) #[] #[]] := by rw [← HW.out]; repeat (first | exact blk_new' (by simp) | apply Blk.alloc)
  have t40 := hb.cell 0; have t41 := hb.cell 1; have t42 := hb.cell 2; have t43 := hb.cell 3
  clear hb
  simp at t40 t41 t42 t43
  clear HW hst hsn
  go_wp2_with fail
  go_ret
  exact rowpost (b1 := w.heap.size) (b2 := w1.heap.size + 1) (by have := HO.out.size; omega) (Nat.le_refl _) (by have := HZ.out; omega) (blk_new' (by simp)) (HS.out.alloc _) (HR.out.alloc _) (HO.out.alloc _)

set_option maxRecDepth 100000 in
set_option maxHeartbeats 3200000 in
theorem row_3 (w : World) : Calls Tryd.prog 67 #[.int .i64 3] w (RowPost 3 row3C w) := by
  have hst := fun (W : World) (a : Addr) (fn : Fn) (c : Array Value) => (run_store Tryd.prog W a (.func fn #[] c) .plain rfl : (store a (.func fn #[] c)).run Tryd.prog W = stored Tryd.prog W a (.func fn #[] c) .plain)
  have hsn := fun (W : World) (a : Addr) => (run_store Tryd.prog W a .nilFunc .plain rfl : (store a .nilFunc).run Tryd.prog W = stored Tryd.prog W a .nilFunc .plain)
  go_enter Tryd.func67, Tryd.ntmps67
  go_upto_region 17 with (go_at_call 79; refine (wnumber_any _ _).mono ?_; (first
    | (rintro e w1 ⟨rfl, hb1, hs1, ho1⟩; have HS0 : Hid (Blk w1 w.heap.size _ #[fnV 80]) := hide hb1; have HZ := hide hs1; have HF := hide (Blk.new w1 104 (numC w.heap.size).toArray); have HS := hide (HS0.out.alloc (.cells (numC w.heap.size).toArray 104)); have HO := hide (ho1.alloc (.cells (numC w.heap.size).toArray 104)); clear hb1 hs1 ho1)
    | (rintro e w2 ⟨rfl, hb1, hs1, ho1⟩; rw [World.size_alloc] at hb1 hs1; have HR : Hid (Blk w2 (w1.heap.size + 1) _ #[fnV 81]) := hide hb1; have HZ2 := hide hs1; have HS := hide (HS.out.only ho1 (by simp)); have HF := hide (HF.out.only ho1 (by simp)); have HO := hide (HO.out.trans ho1); clear hb1 hs1 ho1)))
  generalize hW : ((((((w2.alloc (.cells #[.int .i64 4, .func (.func 103) #[] #[.pointer (some ⟨w1.heap.size + 1, 0, none⟩)], .func (.func 104) #[] #[.pointer (some ⟨w1.heap.size + 1, 0, none⟩)], .nilFunc] 104)).alloc (.cells #[.int .i64 0, .nilFunc, .nilFunc, .func (.func 82) #[] #[]] 104)).alloc (.cells #[.int .i64 0, .nilFunc, .nilFunc, .func (.func 83) #[] #[]] 104)).alloc (.cells #[.int .i64 0, .nilFunc, .nilFunc, .func (.func 84) #[] #[]] 104)).alloc (.cells #[.int .i64 0, .nilFunc, .nilFunc, .func (.func 88) #[] #[]] 104)).alloc (.cells #[.int .i64 0, .nilFunc, .nilFunc, .func (.func 89) #[] #[]] 104)) = wq at *
  have HW := hide hW
  clear hW
  have HS := hide (show Blk wq w.heap.size _ #[fnV 80] from by rw [← HW.out]; repeat (first | exact HS.out | apply Blk.alloc))
  have HR := hide (show Blk wq (w1.heap.size + 1) _ #[fnV 81] from by rw [← HW.out]; repeat (first | exact HR.out | apply Blk.alloc))
  have HO := hide (show Only [] w wq from by rw [← HW.out]; repeat (first | exact HO.out | apply Only.alloc))
  have HF := hide (show Blk wq w1.heap.size 104 (numC w.heap.size).toArray from by rw [← HW.out]; repeat (first | exact HF.out | apply Blk.alloc))
  have hb : Blk wq (w2.heap.size) 104 #[.int .i64 4, .func (.func 103) #[] #[.pointer (some ⟨w1.heap.size + 1, 0, none⟩)], .func (.func 104) #[] #[.pointer (some ⟨w1.heap.size + 1, 0, none⟩)], .nilFunc] := by rw [← HW.out]; repeat (first | exact blk_new' (by simp) | apply Blk.alloc)
  have t00 := hb.cell 0; have t01 := hb.cell 1; have t02 := hb.cell 2; have t03 := hb.cell 3
  clear hb
  simp at t00 t01 t02 t03
  have hb : Blk wq (w2.heap.size + 1 + 1 + 1 + 1) 104 #[.int .i64 0, .nilFunc, .nilFunc, .func (.func 88) #[] #[]] := by rw [← HW.out]; repeat (first | exact blk_new' (by simp) | apply Blk.alloc)
  have t40 := hb.cell 0; have t41 := hb.cell 1; have t42 := hb.cell 2; have t43 := hb.cell 3
  clear hb
  simp at t40 t41 t42 t43
  have hb : Blk wq (w2.heap.size + 1 + 1 + 1 + 1 + 1) 104 #[.int .i64 0, .nilFunc, .nilFunc, .func (.func 89) #[] #[]] := by rw [← HW.out]; repeat (first | exact blk_new' (by simp) | apply Blk.alloc)
  have t50 := hb.cell 0; have t51 := hb.cell 1; have t52 := hb.cell 2; have t53 := hb.cell 3
  clear hb
  simp at t50 t51 t52 t53
  clear HW hst hsn
  go_wp2_with fail
  go_ret
  exact rowpost (b1 := w.heap.size) (b2 := w1.heap.size + 1) (by have := HO.out.size; omega) (Nat.le_refl _) (by have := HZ.out; omega) (blk_new' (by simp)) (HS.out.alloc _) (HR.out.alloc _) (HO.out.alloc _)

set_option maxRecDepth 100000 in
set_option maxHeartbeats 3200000 in
theorem row_4 (w : World) : Calls Tryd.prog 67 #[.int .i64 4] w (RowPost 3 row4C w) := by
  have hst := fun (W : World) (a : Addr) (fn : Fn) (c : Array Value) => (run_store Tryd.prog W a (.func fn #[] c) .plain rfl : (store a (.func fn #[] c)).run Tryd.prog W = stored Tryd.prog W a (.func fn #[] c) .plain)
  have hsn := fun (W : World) (a : Addr) => (run_store Tryd.prog W a .nilFunc .plain rfl : (store a .nilFunc).run Tryd.prog W = stored Tryd.prog W a .nilFunc .plain)
  go_enter Tryd.func67, Tryd.ntmps67
  go_upto_region 21 with (go_at_call 79; refine (wnumber_any _ _).mono ?_; (first
    | (rintro e w1 ⟨rfl, hb1, hs1, ho1⟩; have HS0 : Hid (Blk w1 w.heap.size _ #[fnV 80]) := hide hb1; have HZ := hide hs1; have HF := hide (Blk.new w1 104 (numC w.heap.size).toArray); have HS := hide (HS0.out.alloc (.cells (numC w.heap.size).toArray 104)); have HO := hide (ho1.alloc (.cells (numC w.heap.size).toArray 104)); clear hb1 hs1 ho1)
    | (rintro e w2 ⟨rfl, hb1, hs1, ho1⟩; rw [World.size_alloc] at hb1 hs1; have HR : Hid (Blk w2 (w1.heap.size + 1) _ #[fnV 81]) := hide hb1; have HZ2 := hide hs1; have HS := hide (HS.out.only ho1 (by simp)); have HF := hide (HF.out.only ho1 (by simp)); have HO := hide (HO.out.trans ho1); clear hb1 hs1 ho1)))
  generalize hW : ((((((w2.alloc (.cells #[.int .i64 4, .func (.func 103) #[] #[.pointer (some ⟨w1.heap.size + 1, 0, none⟩)], .func (.func 104) #[] #[.pointer (some ⟨w1.heap.size + 1, 0, none⟩)], .nilFunc] 104)).alloc (.cells #[.int .i64 0, .nilFunc, .nilFunc, .func (.func 82) #[] #[]] 104)).alloc (.cells #[.int .i64 0, .nilFunc, .nilFunc, .func (.func 83) #[] #[]] 104)).alloc (.cells #[.int .i64 0, .nilFunc, .nilFunc, .func (.func 84) #[] #[]] 104)).alloc (.cells #[.int .i64 8, .func (.func 90) #[] #[], .func (.func 91) #[] #[], .nilFunc] 104)).alloc (.cells #[.int .i64 0, .nilFunc, .nilFunc, .func (.func 92) #[] #[]] 104)) = wq at *
  have HW := hide hW
  clear hW
  have HS := hide (show Blk wq w.heap.size _ #[fnV 80] from by rw [← HW.out]; repeat (first | exact HS.out | apply Blk.alloc))
  have HR := hide (show Blk wq (w1.heap.size + 1) _ #[fnV 81] from by rw [← HW.out]; repeat (first | exact HR.out | apply Blk.alloc))
  have HO := hide (show Only [] w wq from by rw [← HW.out]; repeat (first | exact HO.out | apply Only.alloc))
  have HF := hide (show Blk wq w1.heap.size 104 (numC w.heap.size).toArray from by rw [← HW.out]; repeat (first | exact HF.out | apply Blk.alloc))
  have hb : Blk wq (w2.heap.size) 104 #[.int .i64 4, .func (.func 103) #[] #[.pointer (some ⟨w1.heap.size + 1, 0, none⟩)], .func (.func 104) #[] #[.pointer (some ⟨w1.heap.size + 1, 0, none⟩)], .nilFunc] := by rw [← HW.out]; repeat (first | exact blk_new' (by simp) | apply Blk.alloc)
  have t00 := hb.cell 0; have t01 := hb.cell 1; have t02 := hb.cell 2; have t03 := hb.cell 3
  clear hb
  simp at t00 t01 t02 t03
  have hb : Blk wq (w2.heap.size + 1 + 1 + 1 + 1) 104 #[.int .i64 8, .func (.func 90) #[] #[], .func (.func 91) #[] #[], .nilFunc] := by rw [← HW.out]; repeat (first | exact blk_new' (by simp) | apply Blk.alloc)
  have t40 := hb.cell 0; have t41 := hb.cell 1; have t42 := hb.cell 2; have t43 := hb.cell 3
  clear hb
  simp at t40 t41 t42 t43
  have hb : Blk wq (w2.heap.size + 1 + 1 + 1 + 1 + 1) 104 #[.int .i64 0, .nilFunc, .nilFunc, .func (.func 92) #[] #[]] := by rw [← HW.out]; repeat (first | exact blk_new' (by simp) | apply Blk.alloc)
  have t50 := hb.cell 0; have t51 := hb.cell 1; have t52 := hb.cell 2; have t53 := hb.cell 3
  clear hb
  simp at t50 t51 t52 t53
  clear HW hst hsn
  go_wp2_with fail
  go_ret
  exact rowpost (b1 := w.heap.size) (b2 := w1.heap.size + 1) (by have := HO.out.size; omega) (Nat.le_refl _) (by have := HZ.out; omega) (blk_new' (by simp)) (HS.out.alloc _) (HR.out.alloc _) (HO.out.alloc _)
end
section
open Go.RowKit Go.Deep

/-- The number of a kind that a word tells. -/
def numK (k : Int) (l : List UInt8) : Option Nat := if (numR l).2 = 0 ∧ allowedV k (numR l).1 = true then some (numR l).1 else none
def gtB (a b : ByteArray) : Bool := !(Op.bytesLess a.toList b.toList || a.toList == b.toList)
/-- A term that was read: kind, number, bytes, parts. -/
abbrev Nd := Int × Nat × List UInt8 × List ByteArray
def rdEnd (s : ByteArray) (k : Int) (n : Nat) (parts : List ByteArray) (p : Nat) : Option (Nd × Nat) :=
  if peekV s p 41 = true then (if fitsV k parts.length = true then some ((k, n, [], parts), p + 1) else none) else none
/-- Read from p on: a term (none), or the parts of a term, some of which are read (some). -/
def rd (s : ByteArray) : Nat → Option (Int × Nat × List ByteArray) → Nat → Option (Nd × Nat)
  | 0, _, _ => none
  | f + 1, none, p =>
    if h : p < s.size then
      if kindV s[p].toNat = 0 then none
      else if kindV s[p].toNat = 1 then some ((1, 0, [], []), p + 1)
      else if kindV s[p].toNat = 2 ∨ kindV s[p].toNat = 3 then
        match numK (kindV s[p].toNat) (s.extract (p + 1) (wend s (p + 1))).data.toList with
        | none => none
        | some n => some ((kindV s[p].toNat, n, [], []), wend s (p + 1))
      else if kindV s[p].toNat = 4 then
        if (hexR (s.extract (p + 1) (wend s (p + 1))).data.toList).2 = 0 then some ((4, 0, (hexR (s.extract (p + 1) (wend s (p + 1))).data.toList).1, []), wend s (p + 1)) else none
      else if peekV s (p + 1) 40 = false then none
      else if numberedV (kindV s[p].toNat) = true then
        match numK (kindV s[p].toNat) (s.extract (p + 2) (wend s (p + 2))).data.toList with
        | none => none
        | some n =>
          if peekV s (wend s (p + 2)) 44 = false then none
          else if peekV s (wend s (p + 2) + 1) 41 = true then rdEnd s (kindV s[p].toNat) n [] (wend s (p + 2) + 1)
          else rd s f (some (kindV s[p].toNat, n, [])) (wend s (p + 2) + 1)
      else if peekV s (p + 2) 41 = true then rdEnd s (kindV s[p].toNat) 0 [] (p + 2)
      else rd s f (some (kindV s[p].toNat, 0, [])) (p + 2)
    else none
  | f + 1, some (k, n, parts), p =>
    match rd s f none p with
    | none => none
    | some (_, q) =>
      if k = 6 ∧ parts.length = 1 ∧ gtB (parts.getLastD ByteArray.empty) (s.extract p q) = true then none
      else if peekV s q 44 = true then rd s f (some (k, n, parts ++ [s.extract p q])) (q + 1)
      else rdEnd s k n (parts ++ [s.extract p q]) q

def NumberPost (g : Nat) (s : ByteArray) (p : Nat) (r : Option Nat) (w : World) (e : Ending) (w' : World) : Prop :=
  match r with
  | none => Fault [g] w e w'
  | some n => e = .returned (.int .u64 n) ∧ At g s (wend s p) w' ∧ Only [g] w w' ∧ n < 18446744073709551616
theorem number_no {g : Nat} {s : ByteArray} {p : Nat} {r : Option Nat} {w w' : World} (h : r = none) (ho : Only [g] w w') : NumberPost g s p r w (.panicked [{ v := .iface 133 (.agg #[]), recovered := false }]) w' := by
  subst h; exact ⟨rfl, ho⟩
theorem number_yes {g : Nat} {s : ByteArray} {p n : Nat} {r : Option Nat} {w w' : World} (h : r = some n) (hb : At g s (wend s p) w') (ho : Only [g] w w') (hn : n < 18446744073709551616) : NumberPost g s p r w (.returned (.int .u64 n)) w' := by
  subst h; exact ⟨rfl, hb, ho, hn⟩
theorem extract_size (s : ByteArray) (p q : Nat) : (s.extract p q).size ≤ s.size := by
  rw [ByteArray.size_extract]; omega

set_option maxRecDepth 100000 in
set_option maxHeartbeats 1600000 in
theorem number_any (w : World) (g : Nat) (s : ByteArray) (p : Nat) (k : Int) (hb : At g s p w) (hp : p ≤ s.size) (hs : s.size ≤ 1000000) :
    Calls Tryd.prog 96 #[.pointer (some ⟨g, 0, none⟩), .int .i64 k] w (NumberPost g s p (numK k (s.extract p (wend s p)).data.toList) w) := by
  have HW := hide (word_any w g s p hb hp (by unfold maxLen; omega))
  have hx := extract_size s p (wend s p)
  generalize hq : wend s p = q at *
  have HQ := hide hq
  clear hq
  generalize ht : s.extract p q = t at *
  have HT := hide ht
  clear ht hb
  have HN := hide (fun W => num_read W t)
  have HA := hide (fun W n => allowed_any k n W)
  have hr := numR_lt t.data.toList
  have HK := hide (show numK k t.data.toList = if (numR t.data.toList).2 = 0 ∧ allowedV k (numR t.data.toList).1 = true then some (numR t.data.toList).1 else none from rfl)
  generalize numR t.data.toList = r at *
  obtain ⟨u, c⟩ := r
  simp only at hr HK
  cases hc : ((c : Int) != 0) with
  | true =>
    have HR := hide (show numK k t.data.toList = none by rw [HK.out, if_neg]; rintro ⟨a, _⟩; subst a; simp at hc)
    go_enter Tryd.func96, Tryd.ntmps96
    go_wp2_with (first
      | (go_at_call 98; refine HW.out.mono ?_; rintro e w1 ⟨rfl, hb1, ho1⟩; rw [HQ.out, HT.out]; have HO1 := hide ho1; clear hb1 ho1)
      | (go_at_call 105; refine (HN.out _ (by omega)).mono ?_; rintro e w2 ⟨rfl, ho2⟩; have HO2 := hide (HO1.out.trans (ho2.mono (by simp))); clear ho2))
    exact ⟨rfl, number_no HR.out HO2.out⟩
  | false =>
    have hc0 : c = 0 := by simpa using hc
    cases ha : allowedV k u with
    | false =>
      have HR := hide (show numK k t.data.toList = none by rw [HK.out, if_neg]; rintro ⟨_, a⟩; rw [ha] at a; cases a)
      have HAL := hide ha
      have HC0 := hide hc0
      clear ha hc0
      go_enter Tryd.func96, Tryd.ntmps96
      go_wp2_with (first
        | (go_at_call 98; refine HW.out.mono ?_; rintro e w1 ⟨rfl, hb1, ho1⟩; rw [HQ.out, HT.out]; have HO1 := hide ho1; clear hb1 ho1)
        | (go_at_call 105; refine (HN.out _ (by omega)).mono ?_; rintro e w2 ⟨rfl, ho2⟩; have HO2 := hide (HO1.out.trans (ho2.mono (by simp))); clear ho2)
        | (go_at_call 58; refine (HA.out _ _).mono ?_; rintro e w3 ⟨rfl, rfl⟩; rw [HAL.out]))
      exact ⟨rfl, number_no HR.out HO2.out⟩
    | true =>
      have HR := hide (show numK k t.data.toList = some u by rw [HK.out, if_pos ⟨hc0, ha⟩])
      have HAL := hide ha
      have HC0 := hide hc0
      have HU := hide hr
      clear ha hc0 hr
      go_enter Tryd.func96, Tryd.ntmps96
      go_wp2_with (first
        | (go_at_call 98; refine HW.out.mono ?_; rintro e w1 ⟨rfl, hb1, ho1⟩; rw [HQ.out, HT.out]; have HO1 := hide ho1; have HB1 := hide hb1; clear hb1 ho1)
        | (go_at_call 105; refine (HN.out _ (by omega)).mono ?_; rintro e w2 ⟨rfl, ho2⟩; have HO2 := hide (HO1.out.trans (ho2.mono (by simp))); have HB2 := hide (show At g s q w2 from by have h := HB1.out; rw [HQ.out] at h; exact Blk.only h ho2 (by simp)); clear ho2)
        | (go_at_call 58; refine (HA.out _ _).mono ?_; rintro e w3 ⟨rfl, rfl⟩; rw [HAL.out]))
      go_ret
      exact number_yes HR.out (by rw [HQ.out]; exact HB2.out) HO2.out HU.out
end
section

/-- As Q; by a goto to label l: J l. -/
def jumps (J : Nat → Act → World → Prop) (Q : Exit → Act → World → Prop) : Exit → Act → World → Prop
  | .goto l, a, w => J l a w
  | e, a, w => Q e a w

section
variable {P : Program} {a : Act} {w : World} {Q : Exit → Act → World → Prop}
theorem wp_scope_labels {c : Code} (R : Nat → Code) (J : Nat → Act → World → Prop) (μ : Nat → Act → World → Nat) (hf : ∀ l a w, J l a w → findLabel c l = some (R l))
    (first : c.wp P (jumps J Q) a w)
    (pass : ∀ l a w, J l a w → (R l).wp P (jumps (fun l' a' w' => J l' a' w' ∧ μ l' a' w' < μ l a w) Q) a w) : (Code.scope c).wp P Q a w := by
  intro b k cs
  have hg : ∀ l a w, J l a w → gotoIn l (.inScope c :: k) = some (.code (R l) :: .inScope c :: k) := fun l a w h => by simp [gotoIn, hf l a w h]
  have key : ∀ n l a w, μ l a w = n → J l a w → ∃ e a' w', Q e a' w' ∧ Arrives P (lone (b.at a (.code (R l) :: .inScope c :: k)) cs w) b k cs e a' w' := by
    intro n
    induction n using Nat.strongRecOn with
    | _ n ih =>
      intro l a w hn hJ
      obtain ⟨e, a₁, w₁, hq, harr⟩ := pass l a w hJ b (.inScope c :: k) cs
      cases e with
      | normal => exact ⟨.normal, a₁, w₁, hq, Steps.trans harr (.one step_inScope)⟩
      | exit id => exact ⟨.exit id, a₁, w₁, hq, fun k' hk => harr k' (by simp [exitTo, hk])⟩
      | goto l' =>
        obtain ⟨hJ', hlt⟩ := hq
        obtain ⟨e₂, a₂, w₂, hq₂, harr₂⟩ := ih _ (by omega) l' a₁ w₁ rfl hJ'
        exact ⟨e₂, a₂, w₂, hq₂, .of_steps (harr _ (hg l' a₁ w₁ hJ')) harr₂⟩
      | ret => exact ⟨_, a₁, w₁, hq, harr⟩
      | panic ch => exact ⟨_, a₁, w₁, hq, harr⟩
      | outgrown => exact ⟨_, a₁, w₁, hq, harr⟩
  obtain ⟨e, a₁, w₁, hq, harr⟩ := first b (.inScope c :: k) cs
  cases e with
  | normal => exact ⟨.normal, a₁, w₁, hq, .head step_scope (Steps.trans harr (.one step_inScope))⟩
  | exit id => exact ⟨.exit id, a₁, w₁, hq, fun k' hk => .head step_scope (harr k' (by simp [exitTo, hk]))⟩
  | goto l' =>
    have hJ' : J l' a₁ w₁ := hq
    obtain ⟨e₂, a₂, w₂, hq₂, harr₂⟩ := key _ l' a₁ w₁ rfl hJ'
    exact ⟨e₂, a₂, w₂, hq₂, .of_steps (.head step_scope (harr _ (hg l' a₁ w₁ hJ'))) harr₂⟩
  | ret => exact ⟨_, a₁, w₁, hq, .of_steps (.one step_scope) harr⟩
  | panic ch => exact ⟨_, a₁, w₁, hq, .of_steps (.one step_scope) harr⟩
  | outgrown => exact ⟨_, a₁, w₁, hq, .of_steps (.one step_scope) harr⟩
/-- Two labels, 0 and 1. -/
def two (J0 J1 : Act → World → Prop) : Nat → Act → World → Prop
  | 0 => J0
  | 1 => J1
  | _ => fun _ _ => False
def two' (M0 M1 : Act → World → Nat) : Nat → Act → World → Nat
  | 0 => M0
  | _ => M1
def two'' (R0 R1 : Code) : Nat → Code
  | 0 => R0
  | _ => R1
theorem wp_mono {c : Code} {Q' : Exit → Act → World → Prop} (h : c.wp P Q a w) (hq : ∀ e a w, Q e a w → Q' e a w) : c.wp P Q' a w := by
  intro b k cs
  obtain ⟨e, a', w', h1, h2⟩ := h b k cs
  exact ⟨e, a', w', hq _ _ _ h1, h2⟩
theorem wp_skipped {c : Code} (h : c.wp P Q a w) : (Code.skip.seq c).wp P Q a w := wp_seq (wp_skip h)
/-- Both labels' rests are proved once: the way to label 1, and label 1's own rest, may fall through to them. -/
theorem wp_scope_two {c R0 R1 : Code} (J0 J1 : Act → World → Prop) (M1 : Act → World → Nat) (h0 : findLabel c 0 = some (Code.skip.seq R0)) (h1 : findLabel c 1 = some (Code.skip.seq R1))
    (first : (∀ J a w, J0 a w → R0.wp P (jumps J Q) a w) → (∀ a w, J1 a w → R1.wp P (jumps (two J0 J1) Q) a w) → c.wp P (jumps (two J0 J1) Q) a w)
    (pass0 : ∀ a w, J0 a w → R0.wp P (jumps (fun _ _ _ => False) Q) a w)
    (pass1 : (∀ J a w, J0 a w → R0.wp P (jumps J Q) a w) → ∀ a w, J1 a w → R1.wp P (jumps (fun l' a' w' => two J0 J1 l' a' w' ∧ two' (fun _ _ => 0) M1 l' a' w' < M1 a w) Q) a w) : (Code.scope c).wp P Q a w := by
  have p0 : ∀ J a w, J0 a w → R0.wp P (jumps J Q) a w := fun J a w h => wp_mono (pass0 a w h) fun e a' w' hq => by
    cases e <;> first | exact hq | exact hq.elim
  refine wp_scope_labels (two'' (Code.skip.seq R0) (Code.skip.seq R1)) (two J0 J1) (two' (fun _ _ => 0) M1) ?_ (first p0 fun a w h => wp_mono (pass1 p0 a w h) fun e a' w' hq => ?_) ?_
  · rintro (_ | _ | l) a w h
    · exact h0
    · exact h1
    · cases h
  · cases e <;> first | exact hq | exact hq.1
  · rintro (_ | _ | l) a w h
    · exact wp_skipped (p0 _ a w h)
    · exact wp_skipped (pass1 p0 a w h)
    · cases h
end
/-- A frame of n slots, as its slots. -/
theorem act_frame (n : Nat) (a : Act) (hs : a.tmps.size = n) (hd : a.defers = []) : a = ⟨((List.range n).map fun i => a.tmps.getD i undef).toArray, []⟩ := by
  obtain ⟨t, d⟩ := a
  simp only at hs hd
  subst hd
  congr 1
  apply Array.ext
  · simp [hs]
  · intro i h1 h2
    simp at h2
    simp [Array.getD_eq_getD_getElem?, Array.getElem?_eq_getElem h1]
end
section
open Go.RowKit Go.Deep

theorem rdEnd_bd {s : ByteArray} {k : Int} {n : Nat} {parts : List ByteArray} {p q : Nat} {r : Nd} (h : rdEnd s k n parts p = some (r, q)) : q = p + 1 ∧ q ≤ s.size := by
  unfold rdEnd at h
  split at h
  · rename_i hp
    split at h
    · simp only [Option.some.injEq, Prod.mk.injEq] at h
      refine ⟨h.2.symm, ?_⟩
      unfold peekV at hp
      split at hp
      · omega
      · cases hp
    · cases h
  · cases h
theorem peek_lt {s : ByteArray} {p : Nat} {c : Int} (h : peekV s p c = true) : p < s.size := by
  unfold peekV at h
  split at h
  · assumption
  · cases h
theorem rd_bd (s : ByteArray) : ∀ (f : Nat) (m : Option (Int × Nat × List ByteArray)) (p : Nat) (r : Nd) (q : Nat), rd s f m p = some (r, q) → p < q ∧ q ≤ s.size := by
  intro f
  induction f with
  | zero => intro m p r q h; simp [rd] at h
  | succ f ih =>
    intro m p r q h
    cases m with
    | none =>
      rw [rd] at h
      split at h
      · rename_i hp
        have w1 := wend_ge s (p + 1)
        have w2 := wend_le s (p + 1) (by omega)
        repeat' split at h
        all_goals first
          | (cases h; done)
          | (simp only [Option.some.injEq, Prod.mk.injEq] at h; omega)
          | (have h1 := rdEnd_bd h
             have w3 := wend_ge s (p + 2)
             omega)
          | (have h1 := ih _ _ _ _ h
             have w3 := wend_ge s (p + 2)
             omega)
      · cases h
    | some kp =>
      obtain ⟨k, n, parts⟩ := kp
      rw [rd] at h
      split at h
      · cases h
      · rename_i nd q1 hq
        have h1 := ih _ _ _ _ hq
        split at h
        · cases h
        · split at h
          · have h2 := ih _ _ _ _ h
            omega
          · have h2 := rdEnd_bd h
            omega
theorem rd_some (s : ByteArray) (f : Nat) (k : Int) (n : Nat) (parts : List ByteArray) (p : Nat) : rd s (f + 1) (some (k, n, parts)) p =
    match rd s f none p with
    | none => none
    | some (_, q) =>
      if k = 6 ∧ parts.length = 1 ∧ gtB (parts.getLastD ByteArray.empty) (s.extract p q) = true then none
      else if peekV s q 44 = true then rd s f (some (k, n, parts ++ [s.extract p q])) (q + 1)
      else rdEnd s k n (parts ++ [s.extract p q]) q := rfl
def strs (l : List ByteArray) : List Value := l.map Value.string
theorem strs_snoc (l : List ByteArray) (x : ByteArray) : strs l ++ [.string x] = strs (l ++ [x]) := by simp [strs]
theorem strs_length (l : List ByteArray) : (strs l).length = l.length := by simp [strs]
/-- What read hands back. -/
def ReadPost (g : Nat) (s : ByteArray) (keep : Bool) (r : Option (Nd × Nat)) (w : World) (e : Ending) (w' : World) : Prop :=
  match r with
  | none => Fault [g] w e w'
  | some (nd, q) => ∃ bv pv, e = .returned (.agg #[.int .i64 nd.1, .int .u64 nd.2.1, bv, pv]) ∧ At g s q w' ∧ Only [g] w w' ∧ (∀ N : List Nat, (∀ x ∈ N, x < w.heap.size) → Rd w' N bv (ints .u8 (byts nd.2.2.1))) ∧
      (keep = true → ∀ N : List Nat, (∀ x ∈ N, x < w.heap.size) → Rd w' N pv (strs nd.2.2.2))
/-- The term that is being read lies in block b; its parts so far. -/
def Parts (b : Nat) (k : Int) (n : Nat) (bv : Value) (keep : Bool) (parts : List ByteArray) (w w' : World) : Prop :=
  ∃ A l c, Blk w' b 108 #[.int .i64 k, .int .u64 n, bv, .slice A l c] ∧ (if keep = true then w'.ownsRow w.heap.size 9 1 (.slice A l c) parts.length (strs parts) else A = none ∧ l = 0 ∧ c = 0)
def RestPost (g b : Nat) (s : ByteArray) (bv : Value) (keep : Bool) (r : Option (Nd × Nat)) (w : World) (e : Ending) (w' : World) : Prop :=
  match r with
  | none => Fault [g, b] w e w'
  | some (nd, q) => e = .returned (.tuple #[]) ∧ At g s q w' ∧ Only [g, b] w w' ∧ Parts b nd.1 nd.2.1 bv keep nd.2.2.2 w w'
def TSaid (s : ByteArray) (f : Nat) : Prop := ∀ (w : World) (g p : Nat) (keep : Bool), At g s p w → p ≤ s.size → s.size ≤ 1000000 → 2 * (s.size - p) + 1 ≤ f →
  Calls Tryd.prog 71 #[.pointer (some ⟨g, 0, none⟩), .bool keep] w (ReadPost g s keep (rd s f none p) w)
def RSaid (s : ByteArray) (f : Nat) : Prop := ∀ (w : World) (g b p : Nat) (k : Int) (n : Nat) (bv : Value) (keep : Bool), At g s p w → g ≠ b → Blk w b 108 #[.int .i64 k, .int .u64 n, bv, .slice none 0 0] → p ≤ s.size → s.size ≤ 1000000 →
  2 * (s.size - p) + 2 ≤ f →
  Calls Tryd.prog 100 #[.pointer (some ⟨g, 0, none⟩), .pointer (some ⟨b, 0, none⟩), .bool keep] w (RestPost g b s bv keep (if peekV s p 41 = true then rdEnd s k n [] p else rd s f (some (k, n, [])) p) w)
theorem rest_no {g b : Nat} {s : ByteArray} {bv : Value} {keep : Bool} {r : Option (Nd × Nat)} {w w' : World} (h : r = none) (ho : Only [g, b] w w') : RestPost g b s bv keep r w (.panicked [{ v := .iface 133 (.agg #[]), recovered := false }]) w' := by
  subst h; exact ⟨rfl, ho⟩
theorem rest_yes {g b : Nat} {s : ByteArray} {bv : Value} {keep : Bool} {r : Option (Nd × Nat)} {w w' : World} {k : Int} {n q : Nat} {bs : List UInt8} {parts : List ByteArray} (h : r = some ((k, n, bs, parts), q)) (ha : At g s q w') (ho : Only [g, b] w w') (hp : Parts b k n bv keep parts w w') :
    RestPost g b s bv keep r w (.returned (.tuple #[])) w' := by
  subst h; exact ⟨rfl, ha, ho, hp⟩
end
end Go.Proofs.YtfipdjlalfpbnaaDoor

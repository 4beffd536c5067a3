/-
  Walks and plain words (texts Nr1, Join, Bc, Ap1). No condition beyond those that each theorem states.
-/
import Derived.Lib.ItoaMem
import Derived.StillTailTactics
import Derived.Handy
import Derived.Maps.Own
import Derived.Maps.OwnOps
import Derived.Test.YthecnaclfhfilaaDoorA03
import Derived.Test.YthecnaclfhfilaaDoorA04
namespace Go.Proofs.YthecnaclfhfilaaDoor
section
open Go.RowKit Go.Deep

theorem ret_i {k : IntKind} {a b : Int} (h : a = b) : Ending.returned (.int k a) = .returned (.int k b) := by rw [h]
set_option maxHeartbeats 1600000 in
theorem digit_any (n : Nat) (h : n < 16) (w : World) : Calls Tryd.prog 46 #[.int .u8 (n : Int)] w fun e w' => e = .returned (.int .u8 ((hd n).toNat : Int)) ∧ w = w' := by
  have hv := hd_nat n h
  by_cases h1 : n < 10
  · rw [if_pos h1] at hv
    have HV := hide hv
    have h1' : (n : Int) < 10 := by omega
    clear hv h1
    go_enter Tryd.func46, Tryd.ntmps46
    go_wp2_with fail
    go_ret
    exact ⟨ret_i (by rw [HV.out]; omega), rfl⟩
  · rw [if_neg h1] at hv
    have HV := hide hv
    have h1' : ¬ (n : Int) < 10 := by omega
    clear hv h1
    go_enter Tryd.func46, Tryd.ntmps46
    go_wp2_with fail
    go_ret
    exact ⟨ret_i (by rw [HV.out]; omega), rfl⟩

/-- 'string([]byte{x})', the slice just built. -/
theorem conv_one (c : UInt8) (W : World) : (convert 23 9 (.slice (some ⟨W.heap.size, 0, none⟩) 1 1)).run Tryd.prog (W.alloc (.cells #[.int .u8 (c.toNat : Int)] 5)) = .ok (.string ⟨[c].toArray⟩) (W.alloc (.cells #[.int .u8 (c.toNat : Int)] 5)) :=
  rd_string (l := [c]) (N := []) (rd_new W 5 [] [.int .u8 (c.toNat : Int)] (by simp) (by unfold maxLen; simp)) 23 9 5 Tryd.underlying23 Tryd.underlying5 Tryd.underlying9
theorem conv_two (c d : UInt8) (W : World) : (convert 23 9 (.slice (some ⟨W.heap.size, 0, none⟩) 2 2)).run Tryd.prog (W.alloc (.cells #[.int .u8 (c.toNat : Int), .int .u8 (d.toNat : Int)] 5)) = .ok (.string ⟨[c, d].toArray⟩) (W.alloc (.cells #[.int .u8 (c.toNat : Int), .int .u8 (d.toNat : Int)] 5)) :=
  rd_string (l := [c, d]) (N := []) (rd_new W 5 [] [.int .u8 (c.toNat : Int), .int .u8 (d.toNat : Int)] (by simp) (by unfold maxLen; simp)) 23 9 5 Tryd.underlying23 Tryd.underlying5 Tryd.underlying9

theorem conv_two_drew (c d : UInt8) (W : World) : (convert 23 9 (.slice (some ⟨W.heap.size, 0, none⟩) 2 2)).run Tryd.prog (W.alloc (.cells #[.int .u8 (c.toNat : Int), .int .u8 (d.toNat : Int)] 5)).drew = .ok (.string ⟨[c, d].toArray⟩) (W.alloc (.cells #[.int .u8 (c.toNat : Int), .int .u8 (d.toNat : Int)] 5)).drew :=
  rd_string (l := [c, d]) (N := []) ((rd_new W 5 [] [.int .u8 (c.toNat : Int), .int .u8 (d.toNat : Int)] (by simp) (by unfold maxLen; simp)).only ((Only.refl [] _).drew) (by simp)) 23 9 5 Tryd.underlying23 Tryd.underlying5 Tryd.underlying9
theorem dec_split (u : Nat) (h : ¬ u < 10) : Lib.decDigits u = Lib.decDigits (u / 10) ++ [UInt8.ofNat (48 + u % 10)] := by
  rw [Lib.decDigits, dif_neg h]
theorem dec_len (u : Nat) (h : u < 18446744073709551616) : (Lib.decDigits u).length ≤ 20 := by
  rw [Lib.decDigits_length]
  rcases Nat.eq_zero_or_pos u with h0 | h0
  · subst h0; rw [Lib.nDigits_small (by omega)]; omega
  · have := Lib.numDigits_eq u h0 h
    split at this <;> omega

set_option maxRecDepth 100000 in
set_option maxHeartbeats 3200000 in
theorem print_ref (u : Nat) (hu : u < 18446744073709551616) (w : World) : Calls Tryd.prog 33 #[.int .u64 u] w (StrPost (Lib.decDigits u) w) := by
  have HL := hide (dec_len u hu)
  have HO := hide (Only.refl [] w)
  go_enter Tryd.func33, Tryd.ntmps33
  go_wp2_with fail
  go_loopw [0, 3] (fun x s wr => ∃ (v : Nat) (t : List UInt8), x = .int .u64 v ∧ v < 18446744073709551616 ∧ s = .string ⟨t.toArray⟩ ∧ t.length ≤ 20 ∧ Hid (Lib.decDigits u = Lib.decDigits v ++ t) ∧ Hid (Only [] w wr)) (fun x _ _ => (intOf x).toNat)
  case atStart => exact ⟨u, [], rfl, hu, rfl, by simp, hide (by simp), HO⟩
  case round =>
    obtain ⟨v, t, rfl, hv, rfl, htl, hd, ho⟩ := hrel
    clear hu
    have hm10 : v % 10 < 10 := Nat.mod_lt _ (by omega)
    have hb : (UInt8.ofNat (48 + v % 10)).toNat = 48 + v % 10 := by rw [UInt8.toNat_ofNat']; omega
    by_cases h9 : 9 < v
    · have h9' : (9 : Int) < v := by omega
      have HS := hide (dec_split v (by omega))
      have hcv := fun W => conv_one (UInt8.ofNat (48 + v % 10)) W
      have hlen : (UInt8.ofNat (48 + v % 10) :: t).length ≤ 20 := by
        have h1 := HL.out
        rw [hd.out, List.length_append, HS.out, List.length_append] at h1
        simp at h1 ⊢
        omega
      rw [hb, show ((48 + v % 10 : Nat) : Int) = 48 + (v : Int) % 10 by omega] at hcv
      generalize UInt8.ofNat (48 + v % 10) = c at *
      have hadd : ∀ W : World, (Op.stringOp .add ⟨[c].toArray⟩ ⟨t.toArray⟩).run Tryd.prog W = .ok (.string ⟨([c] ++ t).toArray⟩) W := fun W => run_string_add_lists W _ _ (by simp) (by omega)
      have hx0 : 0 ≤ (v : Int) % 10 := by omega
      have hx9 : (v : Int) % 10 ≤ 9 := by omega
      clear hb hm10
      go_wp2_with fail
      go_roundw
      case rel => exact ⟨v / 10, c :: t, (by rw [show ((v / 10 : Nat) : Int) = (v : Int) / 10 by omega]), by omega, rfl, hlen, hide (by rw [hd.out, HS.out, List.append_assoc]; rfl), ho.out.alloc _⟩
      case measure => simp [intOf]; omega
    · have h9' : ¬ (9 : Int) < v := by omega
      have hmod : v % 10 = v := by omega
      rw [hmod] at hb
      have hcv := fun W => conv_one (UInt8.ofNat (48 + v)) W
      have HV := hide (show Lib.decDigits u = UInt8.ofNat (48 + v) :: t by rw [hd.out, Lib.decDigits, dif_pos (by omega)]; rfl)
      rw [hb, show ((48 + v : Nat) : Int) = 48 + (v : Int) by omega] at hcv
      generalize UInt8.ofNat (48 + v) = c at *
      have hadd : ∀ W : World, (Op.stringOp .add ⟨[c].toArray⟩ ⟨t.toArray⟩).run Tryd.prog W = .ok (.string ⟨([c] ++ t).toArray⟩) W := fun W => run_string_add_lists W _ _ (by simp) (by omega)
      clear hb hm10 hmod
      go_wp2_with fail
      go_ret
      exact strpost HV.out (ho.out.alloc _)

theorem hexS_two (l : List UInt8) (k : Nat) (c : UInt8) (h : l[k]? = some c) : hexS (l.take (k + 1)) = hexS (l.take k) ++ [hd (c.toNat / 16), hd (c.toNat % 16)] := by
  rw [take_snoc_l l k c h, hexS_append]; rfl

set_option maxRecDepth 100000 in
set_option maxHeartbeats 6400000 in
theorem hex_ref (w : World) (N : List Nat) (v : Value) (l : List UInt8) (hv : Rd w N v (ints .u8 (byts l))) (hl : l.length ≤ 1000000) :
    Calls Tryd.prog 34 #[v] w (StrPost (hexS l) w) := by
  obtain ⟨A, cap, rfl, hcap, hmx⟩ := hv.formb
  have HV := hide hv
  obtain ⟨n, hn⟩ : ∃ n, n = l.length := ⟨_, rfl⟩
  have HN := hide hn
  rw [← hn] at hcap HV hl ⊢
  clear hv hn
  have HO := hide (Only.refl [] w)
  go_enter Tryd.func34, Tryd.ntmps34
  go_wp2_with fail
  go_loopw [3, 4] (fun s i wr => ∃ (k : Nat) (t : List UInt8), k ≤ n ∧ i = .int .i64 k ∧ s = .string ⟨t.toArray⟩ ∧ t.length ≤ 2 * k ∧ Hid (hexS (l.take k) = t) ∧ Hid (Only [] w wr)) (fun _ i _ => n - (intOf i).toNat)
  case atStart => exact ⟨0, [], Nat.zero_le _, rfl, rfl, by simp, hide rfl, HO⟩
  case round =>
    obtain ⟨k, t, hk, rfl, rfl, htl, ht, ho⟩ := hrel
    by_cases hlt : k < n
    · have hlt' : (k : Int) < n := by omega
      have hkl : k < l.length := by rw [← HN.out]; exact hlt
      obtain ⟨c, hc⟩ : ∃ c, l[k]? = some c := ⟨l[k], List.getElem?_eq_getElem hkl⟩
      have HT := hide (hexS_two l k c hc)
      obtain ⟨g, o, rfl, _, hg, hcell⟩ := HV.out.at_.2.2.2 k (.int .u8 (c.toNat : Int)) (ints_get (byts_get hc))
      have HCE := hide (show ∀ W, Only [] w W → W.cell? ⟨g, o + k, none⟩ = some (.int .u8 (c.toNat : Int)) from fun W h => (cell_only h hg (by simp)).trans hcell)
      have c1 := HCE.out _ ho.out
      have hc256 := c.toNat_lt
      have hcI : (c.toNat : Int) < 256 := by omega
      have HA := hide (fun W => digit_any (c.toNat / 16) (by omega) W)
      have HB := hide (fun W => digit_any (c.toNat % 16) (by omega) W)
      rw [show ((c.toNat / 16 : Nat) : Int) = (c.toNat : Int) / 16 by omega] at HA
      rw [show ((c.toNat % 16 : Nat) : Int) = (c.toNat : Int) % 16 by omega] at HB
      have hq : IntKind.u8.wrap ((c.toNat : Int) / 16) = (c.toNat : Int) / 16 := by rw [IntKind.wrap_u8]; omega
      have hm16 : ((c.toNat : Int)).tmod 16 = (c.toNat : Int) % 16 := Int.tmod_eq_emod_of_nonneg (by omega)
      have hcv := fun W => conv_two (hd (c.toNat / 16)) (hd (c.toNat % 16)) W
      have hcv2 := fun W => conv_two_drew (hd (c.toNat / 16)) (hd (c.toNat % 16)) W
      generalize hd (c.toNat / 16) = x at *
      generalize hd (c.toNat % 16) = y at *
      have hadd : ∀ W : World, (Op.stringOp .add ⟨t.toArray⟩ ⟨[x, y].toArray⟩).run Tryd.prog W = .ok (.string ⟨(t ++ [x, y]).toArray⟩) W := fun W => run_string_add_lists W _ _ (by omega) (by simp)
      have HO2 := hide ((ho.out.alloc (.cells #[.int .u8 (x.toNat : Int), .int .u8 (y.toNat : Int)] 5)).drew)
      have c2 := HCE.out _ HO2.out
      clear hc hcell
      go_upto_region 5 with (fail)
      go_region_with (first
        | (go_at_call 46; (with_reducible refine (HA.out _).mono ?_); rintro e w' ⟨rfl, rfl⟩)
        | (go_at_call 46; (with_reducible refine (HB.out _).mono ?_); rintro e w' ⟨rfl, rfl⟩))
      all_goals
        go_wp2_with fail
        go_roundw
        case rel => exact ⟨k + 1, t ++ [x, y], by omega, (by go_num), rfl, (by simp; omega), hide (by rw [HT.out, ht.out]), hide (by first | exact HO2.out | exact HO2.out.drew)⟩
        case measure => simp [intOf]; omega
    · obtain rfl : k = n := by omega
      have hge : ¬ (k : Int) < k := by omega
      have HV2 := hide (show hexS l = t by rw [← ht.out, List.take_of_length_le (Nat.le_of_eq HN.out.symm)])
      go_wp2_with fail
      go_ret
      exact strpost HV2.out ho.out
end
section
open Go.RowKit Go.Deep

abbrev IsB (B b : Nat) (bs : List Value) (w : World) : Prop := Lib.IsBuilder 57 5 B b bs w
theorem bd_only {B b : Nat} {bs : List Value} {w w' : World} (h : IsB B b bs w) (ho : Only [] w w') : IsB B b bs w' := by
  rcases h with h | h
  · obtain ⟨hB, v, hb, hown, hne⟩ := h
    exact .inl ⟨hB, v, (ho.block b (bd_lt hb) (by simp)).trans hb, own_only hown ho (by simp), hne⟩
  · obtain ⟨hB, v, hb, hown, hne⟩ := h
    exact .inr ⟨hB, v, (ho.block b (bd_lt hb) (by simp)).trans hb, own_only hown ho (by simp), hne⟩
theorem only_of_below {w w' : World} (h : Below w.heap.size w w') : Only [] w w' := ⟨h.os, h.tape, h.output, h.size, fun k hk _ => h.block k hk⟩
theorem below_of_only {B : Nat} {w w' : World} (h : Only [] w w') (hB : B ≤ w.heap.size) : Below B w w' := h.below (fun x hx => by cases hx) hB
end
section
open Go.RowKit Go.Deep

theorem bc_push (bs : List UInt8) (c : UInt8) : Lib.byteCells bs ++ [Value.int .u8 (c.toNat : Int)] = Lib.byteCells (bs ++ [c]) := by simp [Lib.byteCells]
theorem bc_string (bs l : List UInt8) : Lib.byteCells bs ++ Lib.strCells ⟨l.toArray⟩ = Lib.byteCells (bs ++ l) := by simp [Lib.byteCells, Lib.strCells]
theorem bc_len (bs : List UInt8) : (Lib.byteCells bs).length = bs.length := by simp [Lib.byteCells]
theorem isb_eq {B b : Nat} {bs cs : List Value} {w : World} (h : IsB B b bs w) (e : bs = cs) : IsB B b cs w := e ▸ h
end
section
open Go.RowKit Go.Deep

/-- The text of an address with points, up to a byte. -/
def dotV (l : List UInt8) : Nat → List UInt8
  | 0 => []
  | k + 1 => dotV l k ++ ((if k = 0 then [] else [46]) ++ Lib.decDigits (l.getD k 0).toNat)
theorem dot_len (l : List UInt8) : ∀ k, (dotV l k).length ≤ 21 * k
  | 0 => by simp [dotV]
  | k + 1 => by
    have h1 := dot_len l k
    have h2 := dec_len (l.getD k 0).toNat (Nat.lt_of_lt_of_le (UInt8.toNat_lt _) (by decide))
    simp only [dotV, List.length_append]
    generalize (Lib.decDigits (l.getD k 0).toNat).length = x at *
    split <;> simp only [List.length_nil, List.length_singleton] <;> omega
def TxtPost (l : List UInt8) (w : World) (e : Ending) (w' : World) : Prop := e = .returned (.tuple #[.string ⟨l.toArray⟩, .int .i64 0]) ∧ Only [] w w'
theorem txtpost {l m : List UInt8} {w w' : World} (h : l = m) (ho : Only [] w w') : TxtPost l w (.returned (.tuple #[.string ⟨m.toArray⟩, .int .i64 0])) w' := by subst h; exact ⟨rfl, ho⟩

set_option maxRecDepth 100000 in
set_option maxHeartbeats 6400000 in
theorem print_four (v : Value) (l : List UInt8) (N : List Nat) (w : World) (hv : Rd w N v (ints .u8 (byts l))) (h4 : l.length = 4) (htab : Tab w) :
    Calls Tryd.prog 12 #[v] w (TxtPost (dotV l 4) w) := by
  have HV := hide (hv.less (N' := []) (fun x hx => by cases hx))
  obtain ⟨A, cap, rfl, hcp, hcm⟩ := hv.formb
  rw [h4] at HV hcp ⊢
  have HN := hide h4
  have HB := hide (isb_eq (show IsB w.heap.size w.heap.size [] (w.alloc (.cells #[.pointer none, .slice none 0 0] 57)) from Lib.fresh_isBuilder _ _ _) (show [] = Lib.byteCells (dotV l 0) by simp [Lib.byteCells, dotV]))
  have HC := hide (show Below w.heap.size w (w.alloc (.cells #[.pointer none, .slice none 0 0] 57)) from below_of_only ((Only.refl [] w).alloc _) (Nat.le_refl _))
  have HT := hide htab
  clear htab hv h4
  go_enter Tryd.func12, Tryd.ntmps12
  go_wp2_with fail
  obtain ⟨w0, hw0⟩ : ∃ w0, w0 = w.alloc (.cells #[.pointer none, .slice none 0 0] 57) := ⟨_, rfl⟩
  rw [← hw0] at HB HC ⊢
  clear hw0
  go_loopw [15] (fun i wr => ∃ k : Nat, k ≤ 4 ∧ i = .int .i64 k ∧ Hid (IsB w.heap.size w.heap.size (Lib.byteCells (dotV l k)) wr) ∧ Hid (Below w.heap.size w wr)) (fun i _ => 4 - (intOf i).toNat)
  case atStart => exact ⟨0, Nat.zero_le _, rfl, HB, HC⟩
  case round =>
    obtain ⟨k, hk, rfl, HB, HC⟩ := hrel
    have hdl := dot_len l k
    by_cases hlt : k < 4
    · have hltI : (k : Int) < 4 := by omega
      have hg1 := getD_some (l := l) (k := k) (by rw [HN.out]; exact hlt)
      obtain ⟨g, o, rfl, _, hg, hcell⟩ := (HV.out.only (only_of_below HC.out) (by simp)).at_.2.2.2 k _ (ints_get (byts_get hg1))
      have hc1 := UInt8.toNat_lt (l.getD k 0)
      have hds : dotV l (k + 1) = dotV l k ++ ((if k = 0 then [] else [46]) ++ Lib.decDigits (l.getD k 0).toNat) := rfl
      have hdl2 := dec_len (l.getD k 0).toNat (Nat.lt_of_lt_of_le (UInt8.toNat_lt _) (by decide))
      obtain ⟨c, hcc⟩ : ∃ c, c = (l.getD k 0).toNat := ⟨_, rfl⟩
      rw [← hcc] at hcell hc1 hds hdl2
      have HL := hide hdl2
      have HL1 := hide (show (dotV l k).length ≤ 84 by omega)
      have HC64 := hide (show c < 18446744073709551616 by omega)
      by_cases h0 : k = 0
      · have hzero : ¬ (0 : Int) < k := by omega
        have HD := hide hds
        have HK0 := hide h0
        clear hds hdl2 hdl hcc hg1 h0
        go_wp2_with (first
          | (go_at_call 29; refine (print_any c HC64.out _ (HT.out.only (only_of_below HC.out) (by simp))).mono ?_; rintro e w2 ⟨rfl, ho⟩; have HB := hide (bd_only HB.out ho); have HC := hide (HC.out.trans (below_of_only ho HC.out.size)); clear ho)
          | (go_at_call 28; refine (write_string w.heap.size w.heap.size _ _ _ HB.out (by rw [bc_len]; have := HL.out; have := HL1.out; simp [ByteArray.size]; omega) HC.out.size).mono ?_; rintro e w3 ⟨rfl, h1, hb1⟩; have HC := hide (HC.out.trans hb1); have HB := hide (isb_eq h1 (bc_string _ _)); clear h1 hb1))
        go_roundw
        case rel => exact ⟨k + 1, by omega, by go_num, hide (isb_eq HB.out (by rw [HD.out, if_pos HK0.out]; simp)), HC⟩
        case measure => simp [intOf]; omega
      · have hpos : (0 : Int) < k := by omega
        have HD := hide hds
        have HK0 := hide h0
        clear hds hdl2 hdl hcc hg1 h0
        go_wp2_with (first
          | (go_at_call 27; refine (write_byte w.heap.size w.heap.size _ _ _ HB.out (by rw [bc_len]; have := HL1.out; omega) HC.out.size).mono ?_; rintro e w1 ⟨rfl, h1, hb1⟩; have HC := hide (HC.out.trans hb1); have HB := hide (isb_eq h1 (bc_push _ 46)); clear h1 hb1)
          | (go_at_call 29; refine (print_any c HC64.out _ (HT.out.only (only_of_below HC.out) (by simp))).mono ?_; rintro e w2 ⟨rfl, ho⟩; have HB := hide (bd_only HB.out ho); have HC := hide (HC.out.trans (below_of_only ho HC.out.size)); clear ho)
          | (go_at_call 28; refine (write_string w.heap.size w.heap.size _ _ _ HB.out (by rw [bc_len]; have := HL.out; have := HL1.out; simp [ByteArray.size]; omega) HC.out.size).mono ?_; rintro e w3 ⟨rfl, h1, hb1⟩; have HC := hide (HC.out.trans hb1); have HB := hide (isb_eq h1 (bc_string _ _)); clear h1 hb1))
        go_roundw
        case rel => exact ⟨k + 1, by omega, by go_num, hide (isb_eq HB.out (by rw [HD.out, if_neg HK0.out]; simp)), HC⟩
        case measure => simp [intOf]; omega
    · obtain rfl : k = 4 := by omega
      go_wp2_with (go_at_call 32; refine (Tryd.Builder_String_any w.heap.size w.heap.size (dotV l 4) _ HB.out HC.out.size).mono ?_; rintro e w4 ⟨rfl, hb1⟩; have HC := hide (HC.out.trans hb1); clear hb1)
      go_ret2
      exact txtpost rfl (only_of_below HC.out)
end
end Go.Proofs.YthecnaclfhfilaaDoor

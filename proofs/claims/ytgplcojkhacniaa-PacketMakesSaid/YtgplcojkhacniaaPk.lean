/-
  Contracts of packet's bounds, Read, Trim, Data, and of the reference's Read, by walking.
-/
import Derived.Test.YtgplcojkhacniaaClone
import Derived.Test.YtgplcojkhacniaaSame01
namespace Go.Proofs.Ytgplcojkhacniaa
open Go.RowKit Go.Deep

/-- The byte at a place. -/
def bt (l : List UInt8) (i : Nat) : Nat := (l.getD i 0).toNat
theorem bt_lt (l : List UInt8) (i : Nat) : bt l i < 256 := (l.getD i 0).toNat_lt
theorem rd_bt {w : World} {N : List Nat} {g o n cap : Nat} {l : List UInt8} (h : Rd w N (.slice (some ⟨g, o, none⟩) n cap) (ints .u8 (byts l))) {i : Nat} (hi : i < l.length) : w.cell? ⟨g, o + i, none⟩ = some (.int .u8 (bt l i : Nat)) := by
  obtain ⟨g', o', hA, _, _, hc⟩ := h.at_.2.2.2 i (.int .u8 (bt l i : Nat)) (ints_get (byts_get (by rw [List.getD_eq_getElem?_getD, List.getElem?_eq_getElem hi]; rfl)))
  injection hA with hA
  injection hA with e1 e2
  subst e1 e2
  exact hc
theorem rd_some {w : World} {N : List Nat} {A : Option Addr} {n cap : Nat} {l : List UInt8} (h : Rd w N (.slice A n cap) (ints .u8 (byts l))) (hi : 0 < l.length) : ∃ g o, A = some ⟨g, o, none⟩ ∧ g < w.heap.size ∧ g ∉ N := by
  obtain ⟨g, o, hA, h1, h2, _⟩ := h.at_.2.2.2 0 (.int .u8 (bt l 0 : Nat)) (ints_get (byts_get (by rw [List.getD_eq_getElem?_getD, List.getElem?_eq_getElem hi]; rfl)))
  exact ⟨g, o, hA, h2, h1⟩

/-- What bounds tells: how long the beginning and the whole are, and the code. -/
def bndV (l : List UInt8) : Nat × Nat × Nat :=
  if l.length = 0 then (0, 0, 4)
  else if bt l 0 / 16 = 4 then
    if l.length < 20 then (0, 0, 4)
    else if 4 * (bt l 0 % 16) < 20 ∨ 256 * bt l 2 + bt l 3 < 4 * (bt l 0 % 16) then (0, 0, 3)
    else if l.length < 256 * bt l 2 + bt l 3 then (0, 0, 4) else (4 * (bt l 0 % 16), 256 * bt l 2 + bt l 3, 0)
  else if bt l 0 / 16 = 6 then
    if l.length < 40 then (0, 0, 4)
    else if l.length < 40 + (256 * bt l 4 + bt l 5) then (0, 0, 4) else (40, 40 + (256 * bt l 4 + bt l 5), 0)
  else (0, 0, 3)

theorem or_bytes (a b : Nat) (ha : a < 256) (hb : b < 256) : bits .or .i64 ((a : Int) * 256) (b : Int) = ((256 * a + b : Nat) : Int) := by
  have e1 : (a : Int) * 256 = ((a * 256 : Nat) : Int) := (Int.natCast_mul a 256).symm
  have e2 : (BitVec.ofInt 64 ((a * 256 : Nat) : Int)).toNat = a * 256 := by
    rw [BitVec.ofInt_natCast, BitVec.toNat_ofNat]; exact Nat.mod_eq_of_lt (by omega)
  have e3 : (BitVec.ofInt 64 ((b : Nat) : Int)).toNat = b := by
    rw [BitVec.ofInt_natCast, BitVec.toNat_ofNat]; exact Nat.mod_eq_of_lt (by omega)
  have e4 : (a * 256) ||| b = 256 * a + b := by
    have := Nat.two_pow_add_eq_or_of_lt (i := 8) (b := b) (by omega) a
    rw [Nat.mul_comm a 256]
    exact this.symm
  rw [e1]
  show IntKind.i64.wrap ((BitVec.ofInt 64 ((a * 256 : Nat) : Int) ||| BitVec.ofInt 64 (b : Int)).toNat : Int) = _
  rw [BitVec.toNat_or, e2, e3, e4, IntKind.wrap_i64]
  omega

set_option maxRecDepth 100000 in
set_option maxHeartbeats 1600000 in
theorem bounds_any (w : World) (N : List Nat) (v : Value) (l : List UInt8) (hv : Rd w N v (ints .u8 (byts l))) :
    Calls Try.prog 15 #[v] w fun e w' => e = .returned (.tuple #[.int .i64 (bndV l).1, .int .i64 (bndV l).2.1, .int .i64 (bndV l).2.2]) ∧ ∃ k, w' = w.drewN k := by
  obtain ⟨A, cap, rfl, hc, hm⟩ := hv.formb
  have HM := hide (show cap ≤ 9223372036854775807 by unfold maxLen at hm; omega)
  clear hm
  by_cases h0 : l.length = 0
  · have e : bndV l = (0, 0, 4) := by unfold bndV; rw [if_pos h0]
    rw [e]
    have hq : ((l.length : Int) == 0) = true := by rw [h0]; rfl
    clear e hv
    generalize l.length = n at *
    clear h0
    go_enter Try.func15, Try.ntmps15
    go_wp2
    go_ret3
    exact ⟨rfl, 0, rfl⟩
  have hq : ((l.length : Int) == 0) = false := by rw [beq_eq_false_iff_ne]; omega
  obtain ⟨g, o, rfl, hg, _⟩ := rd_some hv (by omega)
  have c0 := rd_bt hv (show 0 < l.length by omega)
  rw [Nat.add_zero] at c0
  have b0 := bt_lt l 0
  have hlen1 : 0 < l.length := by omega
  have hlen1' : (0 : Int) < l.length := by omega
  by_cases h4 : bt l 0 / 16 = 4
  · have hv4 : ((bt l 0 : Int) / 16 == 4) = true := by rw [beq_iff_eq]; omega
    by_cases h20 : l.length < 20
    · have e : bndV l = (0, 0, 4) := by unfold bndV; rw [if_neg h0, if_pos h4, if_pos h20]
      rw [e]
      have h20' : (l.length : Int) < 20 := by omega
      clear e hv
      generalize l.length = n at *
      generalize bt l 0 = b at *
      clear h0 h4 h20
      go_enter Try.func15, Try.ntmps15
      go_wp2
      go_ret3
      exact ⟨rfl, 0, rfl⟩
    have h20' : ¬ (l.length : Int) < 20 := by omega
    have c2 := rd_bt hv (show 2 < l.length by omega)
    have c3 := rd_bt hv (show 3 < l.length by omega)
    have b2 := bt_lt l 2
    have b3 := bt_lt l 3
    have hor := or_bytes _ _ b2 b3
    have h2' : (2 : Int) < l.length := by omega
    have h3' : (3 : Int) < l.length := by omega
    have e0 : bndV l = if 4 * (bt l 0 % 16) < 20 ∨ 256 * bt l 2 + bt l 3 < 4 * (bt l 0 % 16) then (0, 0, 3) else if l.length < 256 * bt l 2 + bt l 3 then (0, 0, 4) else (4 * (bt l 0 % 16), 256 * bt l 2 + bt l 3, 0) := by
      unfold bndV; rw [if_neg h0, if_pos h4, if_neg h20]
    rw [e0]
    clear e0 hv
    generalize l.length = n at *
    generalize bt l 0 = x0 at *
    generalize bt l 2 = x2 at *
    generalize bt l 3 = x3 at *
    have hh : 256 * x2 + x3 < 65536 := by omega
    generalize hN : 256 * x2 + x3 = m at *
    have HN := hide hN
    clear hN h0 h4 h20
    by_cases k1 : 4 * (x0 % 16) < 20
    · have k1' : 4 * ((x0 : Int) % 16) < 20 := by omega
      rw [if_pos (.inl k1)]
      clear k1
      go_enter Try.func15, Try.ntmps15
      go_wp2_with fail
      go_quiet (fail)
      go_wp2
      go_ret3
      exact ⟨rfl, _, rfl⟩
    have k1' : ¬ 4 * ((x0 : Int) % 16) < 20 := by omega
    by_cases k2 : m < 4 * (x0 % 16)
    · have k2' : (m : Int) < 4 * ((x0 : Int) % 16) := by omega
      rw [if_pos (.inr k2)]
      clear k1 k2
      go_enter Try.func15, Try.ntmps15
      go_wp2_with fail
      go_quiet (fail)
      go_wp2
      go_ret3
      exact ⟨rfl, _, rfl⟩
    have k2' : ¬ (m : Int) < 4 * ((x0 : Int) % 16) := by omega
    rw [if_neg (by rintro (h | h); exact k1 h; exact k2 h)]
    by_cases k3 : n < m
    · have k3' : (n : Int) < m := by omega
      rw [if_pos k3]
      clear k1 k2 k3
      go_enter Try.func15, Try.ntmps15
      go_wp2_with fail
      go_quiet (fail)
      go_wp2
      go_ret3
      exact ⟨rfl, _, rfl⟩
    have k3' : ¬ (n : Int) < m := by omega
    rw [if_neg k3]
    have ek : ((4 * (x0 % 16) : Nat) : Int) = 4 * ((x0 : Int) % 16) := by omega
    have EK := hide ek
    clear k1 k2 k3 ek
    go_enter Try.func15, Try.ntmps15
    go_wp2_with fail
    go_quiet (fail)
    go_wp2
    go_ret3
    exact ⟨by rw [EK.out]; rfl, _, rfl⟩
  have hv4 : ((bt l 0 : Int) / 16 == 4) = false := by rw [beq_eq_false_iff_ne]; omega
  by_cases h6 : bt l 0 / 16 = 6
  case neg =>
    have hv6 : ((bt l 0 : Int) / 16 == 6) = false := by rw [beq_eq_false_iff_ne]; omega
    have e : bndV l = (0, 0, 3) := by unfold bndV; rw [if_neg h0, if_neg h4, if_neg h6]
    rw [e]
    clear e hv
    generalize l.length = n at *
    generalize bt l 0 = b at *
    clear h0 h4 h6
    go_enter Try.func15, Try.ntmps15
    go_wp2
    go_ret3
    exact ⟨rfl, 0, rfl⟩
  have hv6 : ((bt l 0 : Int) / 16 == 6) = true := by rw [beq_iff_eq]; omega
  by_cases h40 : l.length < 40
  · have e : bndV l = (0, 0, 4) := by unfold bndV; rw [if_neg h0, if_neg h4, if_pos h6, if_pos h40]
    rw [e]
    have h40' : (l.length : Int) < 40 := by omega
    clear e hv
    generalize l.length = n at *
    generalize bt l 0 = b at *
    clear h0 h4 h6 h40
    go_enter Try.func15, Try.ntmps15
    go_wp2
    go_ret3
    exact ⟨rfl, 0, rfl⟩
  have h40' : ¬ (l.length : Int) < 40 := by omega
  have c4 := rd_bt hv (show 4 < l.length by omega)
  have c5 := rd_bt hv (show 5 < l.length by omega)
  have b4 := bt_lt l 4
  have b5 := bt_lt l 5
  have hor := or_bytes _ _ b4 b5
  have h4' : (4 : Int) < l.length := by omega
  have h5' : (5 : Int) < l.length := by omega
  have e0 : bndV l = if l.length < 40 + (256 * bt l 4 + bt l 5) then (0, 0, 4) else (40, 40 + (256 * bt l 4 + bt l 5), 0) := by
    unfold bndV; rw [if_neg h0, if_neg h4, if_pos h6, if_neg h40]
  rw [e0]
  clear e0 hv
  generalize l.length = n at *
  generalize bt l 0 = x0 at *
  generalize bt l 4 = x2 at *
  generalize bt l 5 = x3 at *
  have hh : 256 * x2 + x3 < 65536 := by omega
  generalize hN : 256 * x2 + x3 = m at *
  clear hN h0 h4 h6 h40
  have ek : ((40 + m : Nat) : Int) = 40 + (m : Int) := by omega
  have EK := hide ek
  clear ek
  by_cases k3 : n < 40 + m
  · have k3' : (n : Int) < 40 + m := by omega
    rw [if_pos k3]
    clear k3
    go_enter Try.func15, Try.ntmps15
    go_wp2_with fail
    go_quiet (fail)
    go_wp2
    go_ret3
    exact ⟨rfl, _, rfl⟩
  have k3' : ¬ (n : Int) < 40 + m := by omega
  rw [if_neg k3]
  clear k3
  go_enter Try.func15, Try.ntmps15
  go_wp2_with fail
  go_quiet (fail)
  go_wp2
  go_ret3
  exact ⟨by rw [EK.out]; rfl, _, rfl⟩
end Go.Proofs.Ytgplcojkhacniaa

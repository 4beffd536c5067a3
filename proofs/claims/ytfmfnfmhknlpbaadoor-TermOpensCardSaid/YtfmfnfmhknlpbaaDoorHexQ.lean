/-
  num.Hex: the text of bytes, by walking. Condition: at most 1,000,000 bytes.
-/
import Derived.Test.YtfmfnfmhknlpbaaDoorNum4Q
namespace Go.Proofs.YtfmfnfmhknlpbaaDoor
open Go.RowKit Go.Deep

def hd (n : Nat) : UInt8 := if n < 10 then UInt8.ofNat (48 + n) else UInt8.ofNat (87 + n)
theorem hd_nat (n : Nat) (h : n < 16) : (hd n).toNat = if n < 10 then 48 + n else 87 + n := by
  unfold hd; split <;> simp [UInt8.toNat_ofNat'] <;> omega
def hexS : List UInt8 → List UInt8
  | [] => []
  | b :: r => hd (b.toNat / 16) :: hd (b.toNat % 16) :: hexS r
theorem hexS_append : ∀ l m : List UInt8, hexS (l ++ m) = hexS l ++ hexS m
  | [], m => rfl
  | b :: r, m => by simp only [List.cons_append, hexS, hexS_append r m]
theorem hexS_length : ∀ l : List UInt8, (hexS l).length = 2 * l.length
  | [] => rfl
  | b :: r => by simp only [hexS, List.length_cons, hexS_length r]; omega
def digs16 : ByteArray := ⟨#[48, 49, 50, 51, 52, 53, 54, 55, 56, 57, 97, 98, 99, 100, 101, 102]⟩
theorem dig_at (n : Nat) (h : n < 16) (W : World) : (Instr.index 9 (.string ⟨#[48, 49, 50, 51, 52, 53, 54, 55, 56, 57, 97, 98, 99, 100, 101, 102]⟩) (.int .u8 (n : Int))).run Tryd.prog W = .ok (.int .u8 ((hd n).toNat : Int)) W := by
  rcases (show n = 0 ∨ n = 1 ∨ n = 2 ∨ n = 3 ∨ n = 4 ∨ n = 5 ∨ n = 6 ∨ n = 7 ∨ n = 8 ∨ n = 9 ∨ n = 10 ∨ n = 11 ∨ n = 12 ∨ n = 13 ∨ n = 14 ∨ n = 15 by omega) with rfl | rfl | rfl | rfl | rfl | rfl | rfl | rfl | rfl | rfl | rfl | rfl | rfl | rfl | rfl | rfl
  all_goals kernel_rfl
theorem reads_two (w : World) (e : TypeId) (x y : Value) (B : Nat) (hB : w.heap.size < B) : Reads (w.alloc (.cells #[x, y] e)) B 1 (some ⟨w.heap.size, 0, none⟩) 2 [x, y] :=
  ⟨rfl, fun _ => ⟨_, rfl, hB, fun j u hu => by
    rw [add_mk, Nat.zero_add, (Blk.new w e #[x, y]).cell j]
    simpa using hu⟩⟩
theorem take_snoc_l {α : Type} (l : List α) (k : Nat) (x : α) (h : l[k]? = some x) : l.take (k + 1) = l.take k ++ [x] := by
  rw [List.take_add_one, h]; rfl
theorem two_hex {v : Value} {w' : World} {B e k : Nat} {l : List UInt8} {c : UInt8} (h : w'.ownsRow B e 1 v (2 * k + 2) (ints .u8 (byts (hexS (l.take k))) ++ [.int .u8 ((hd (c.toNat / 16)).toNat : Int), .int .u8 ((hd (c.toNat % 16)).toNat : Int)])) (hc : l[k]? = some c) :
    w'.ownsRow B e 1 v (2 * (k + 1)) (ints .u8 (byts (hexS (l.take (k + 1))))) := by
  rw [take_snoc_l l k c hc, hexS_append, byts_append, ← ints_snoc_list]
  exact h
def StrPost (l : List UInt8) (w : World) (e : Ending) (w' : World) : Prop := e = .returned (.string ⟨l.toArray⟩) ∧ Only [] w w'
theorem strpost {l m : List UInt8} {w w' : World} (h : l = m) (ho : Only [] w w') : StrPost l w (.returned (.string ⟨m.toArray⟩)) w' := by subst h; exact ⟨rfl, ho⟩

set_option maxRecDepth 100000 in
set_option maxHeartbeats 6400000 in
theorem num_hex (w : World) (N : List Nat) (v : Value) (l : List UInt8) (hv : Rd w N v (ints .u8 (byts l))) (hl : l.length ≤ 1000000) :
    Calls Tryd.prog 89 #[v] w (StrPost (hexS l) w) := by
  obtain ⟨A, cap, rfl, hcap, hmx⟩ := hv.formb
  have HV := hide hv
  obtain ⟨n, hn⟩ : ∃ n, n = l.length := ⟨_, rfl⟩
  have HN := hide hn
  rw [← hn] at hcap HV hl ⊢
  clear hv hn
  obtain ⟨i0, hi, hz0, hz1, hz2⟩ := info_parts (show (Tryd.prog.info? 5).map (fun i => (i.zero, i.size, i.bytes)) = some (some (.int .u8 0), 1, 1) by kernel_rfl)
  have hwl : IntKind.i64.wrap (2 * (n : Int)) = 2 * (n : Int) := IntWalk.i64_in _ (by omega)
  have hmk : ∀ W, (Instr.makeSlice 30 (.int .i64 0) (.int .i64 (2 * (n : Int)))).run Tryd.prog W = .ok (.slice (some ⟨W.heap.size, 0, none⟩) 0 (2 * n)) (W.alloc (.cells (Array.replicate (2 * n) (.int .u8 0)) 5)) := by
    intro W
    exact run_make_row W 30 5 i0 _ Tryd.underlying30 hi hz0 hz1 rfl .i64 .i64 0 (2 * n) (Nat.zero_le _) (by rw [hz2]; omega) (by omega)
  have HOW := hide (World.ownsRow_made (base := w.heap.size) w (Array.replicate (2 * n) (.int .u8 0)) (2 * n) (Nat.le_refl _) (by unfold maxLen; omega) (e := 5) (size := 1) (by simp))
  have HO := hide ((Only.refl [] w).alloc (.cells (Array.replicate (2 * n) (.int .u8 0)) 5))
  go_enter Tryd.func89, Tryd.ntmps89
  go_wp2_with fail
  obtain ⟨w0, hw0⟩ : ∃ w0, w0 = w.alloc (.cells (Array.replicate (2 * n) (.int .u8 0)) 5) := ⟨_, rfl⟩
  rw [← hw0] at HOW HO ⊢
  have hsz : w.heap.size ≤ w0.heap.size := HO.out.size
  clear hw0 hmk hwl
  go_loopw [3, 12] (fun v i wr => ∃ k : Nat, k ≤ n ∧ i = .int .i64 k ∧ Hid (wr.ownsRow w.heap.size 5 1 v (2 * k) (ints .u8 (byts (hexS (l.take k))))) ∧ Hid (Only [] w wr)) (fun _ i _ => n - (intOf i).toNat)
  case atStart => exact ⟨0, Nat.zero_le _, rfl, HOW, HO⟩
  case round =>
    obtain ⟨k, hk, rfl, how, ho⟩ := hrel
    by_cases hlt : k < n
    · have hlt' : (k : Int) < n := by omega
      have hkl : k < l.length := by rw [← HN.out]; exact hlt
      obtain ⟨c, hc⟩ : ∃ c, l[k]? = some c := ⟨l[k], List.getElem?_eq_getElem hkl⟩
      have HC := hide hc
      obtain ⟨g, o, rfl, _, hg, hcell⟩ := HV.out.at_.2.2.2 k (.int .u8 (c.toNat : Int)) (ints_get (byts_get hc))
      have c1 : wr.cell? ⟨g, o + k, none⟩ = some (.int .u8 (c.toNat : Int)) := (cell_only ho.out hg (by simp)).trans hcell
      have hc256 := c.toNat_lt
      have hcI : (c.toNat : Int) < 256 := by omega
      have hA := fun W => dig_at (c.toNat / 16) (by omega) W
      have hB := fun W => dig_at (c.toNat % 16) (by omega) W
      rw [show ((c.toNat / 16 : Nat) : Int) = (c.toNat : Int) / 16 by omega] at hA
      rw [show ((c.toNat % 16 : Nat) : Int) = (c.toNat : Int) % 16 by omega] at hB
      have hband : bits .and .u8 (c.toNat : Int) 15 = (c.toNat : Int) % 16 := u8_and15 _ (by omega) (by omega)
      obtain ⟨Av, cv, rfl, hjc, hcm⟩ := own_form how.out
      have HSZ := hide ho.out.size
      obtain ⟨x, hx⟩ : ∃ x, x = (hd (c.toNat / 16)).toNat := ⟨_, rfl⟩
      obtain ⟨y, hy⟩ : ∃ y, y = (hd (c.toNat % 16)).toNat := ⟨_, rfl⟩
      rw [← hx] at hA
      rw [← hy] at hB
      have HX := hide hx
      have HY := hide hy
      have HOW2 := hide (World.ownsRow.alloc (own_only how.out ((Only.refl [] wr).drew) (by simp)) (.cells #[.int .u8 (x : Int), .int .u8 (y : Int)] 5))
      have HO2 := hide (ho.out.drew.alloc (.cells #[.int .u8 (x : Int), .int .u8 (y : Int)] 5))
      have HRN := hide (reads_two wr.drew 5 (.int .u8 (x : Int)) (.int .u8 (y : Int)) (wr.heap.size + 1) (Nat.lt_succ_self _))
      clear hc hcell hx hy
      go_upto_region 5 with (fail)
      go_region_held3 (fun _ => True) (exact trivial)
        (first
        | (refine step_append_any _ rfl (.tmp 16) (.tmp 23) 30 rfl w.heap.size 5 i0 (.int .u8 0) 1 1 Tryd.underlying30 hi hz0 hz1 hz2 rfl (by decide) _ (2 * k) _ rfl HOW2.out _ _ 2 2 [.int .u8 (x : Int), .int .u8 (y : Int)] rfl HRN.out (by simp [Value.oneCell']) (by unfold maxLen; omega) (by omega) (by have := HSZ.out; simp; omega) ?_; intro v1 w3 hown1 hg1 _; rw [HX.out, HY.out] at hown1; have HOW3 := hide (two_hex hown1 HC.out); have HO3 := hide (HO2.out.grown hg1 (fun j hj => .inr (own_block_ge HOW2.out hj))); clear hown1 hg1))
      all_goals
        go_wp2_with fail
        go_roundw
        case rel => exact ⟨k + 1, by omega, by go_num, HOW3, HO3⟩
        case measure => simp [intOf]; omega
    · obtain rfl : k = n := by omega
      have hge : ¬ (k : Int) < k := by omega
      obtain ⟨Av, cv, rfl, hjc, hcm⟩ := own_form how.out
      have HRD := hide (Rd.of_own (N := []) how.out (by simp)).1
      rw [List.take_of_length_le (Nat.le_of_eq HN.out.symm)] at HRD
      have hcv := rd_string (P := Tryd.prog) HRD.out 30 9 5 Tryd.underlying30 Tryd.underlying5 Tryd.underlying9
      go_wp2_with fail
      go_ret
      exact strpost rfl ho.out
end Go.Proofs.YtfmfnfmhknlpbaaDoor

/-
  A table that is not there; the law's example of tries; the law TrieNil: by walking.
-/
import Derived.Test.YtjkgmkkhjpcngaaTr5
namespace Go.Proofs.Ytjkgmkkhjpcngaa
open Go.RowKit Go.Deep

theorem each_nil (f : Value) (w : World) : Calls Try.prog 48 #[.pointer none, f] w fun e w' => e = .returned (.tuple #[]) ∧ w = w' := by
  go_enter Try.func48, Try.ntmps48
  go_wp2
  refine bodyPost_ret (results_none rfl _ _ _) rfl ?_
  exact ⟨rfl, rfl⟩
theorem rows_nil (w : World) : Calls Try.prog 20 #[.pointer none] w fun e w' => e = .returned (.slice none 0 0) ∧ Only [] w w' := by
  go_enter Try.func20, Try.ntmps20
  go_wp2_with (go_at_call 48; refine (each_nil _ _).mono ?_; rintro e w1 ⟨rfl, rfl⟩)
  go_ret
  exact ⟨rfl, (Only.refl [] w).alloc _⟩
theorem of_nil (x : Int) (w : World) : Calls Try.prog 21 #[.pointer none, .int .i64 x] w fun e w' => e = .returned (.slice none 0 0) ∧ Only [] w w' := by
  go_enter Try.func21, Try.ntmps21
  go_wp2_with (go_at_call 48; refine (each_nil _ _).mono ?_; rintro e w1 ⟨rfl, rfl⟩)
  go_ret
  exact ⟨rfl, ((Only.refl [] w).alloc _).alloc _⟩
theorem drop_nil (x : Int) (w : World) : Calls Try.prog 16 #[.pointer none, .int .i64 x] w fun e w' => e = .returned (.int .i64 0) ∧ Only [] w w' := by
  go_enter Try.func16, Try.ntmps16
  go_wp2_with (go_at_call 21; refine (of_nil _ _).mono ?_; rintro e w1 ⟨rfl, ho⟩; have HO := hide ho; clear ho)
  go_loopw [13] (fun i wr => i = .int .i64 0 ∧ w1 = wr) (fun _ _ => 0)
  case atStart => exact ⟨rfl, rfl⟩
  case round =>
    obtain ⟨rfl, rfl⟩ := hrel
    go_wp2_with fail
    go_ret
    exact ⟨rfl, HO.out⟩
theorem del_nil (A : Option Addr) (n cap : Nat) (b : Int) (w : World) : Calls Try.prog 14 #[.pointer none, .agg #[.slice A n cap, .int .i64 b]] w fun e w' => e = .returned (.bool false) ∧ Only [] w w' := by
  go_enter Try.func14, Try.ntmps14
  go_wp2
  go_ret
  exact ⟨rfl, (Only.refl [] w).alloc _⟩

/-- A slice of four bytes just built. -/
theorem rd_four (w : World) (bl : List Nat) (hb : ∀ g ∈ bl, g < w.heap.size) (a b c d : UInt8) :
    Rd (w.alloc (.cells #[.int .u8 (a.toNat : Int), .int .u8 (b.toNat : Int), .int .u8 (c.toNat : Int), .int .u8 (d.toNat : Int)] 5)) bl (.slice (some ⟨w.heap.size, 0, none⟩) 4 4) (ints .u8 (byts [a, b, c, d])) := by
  exact rd_new w 5 bl [.int .u8 (a.toNat : Int), .int .u8 (b.toNat : Int), .int .u8 (c.toNat : Int), .int .u8 (d.toNat : Int)] hb (by simp [maxLen])

def th1 : Bool → List Bool → Bool := upd2 noTh (!(decide ((([10, 0, 0, 0] : List UInt8)).length = 4))) (pathR [10, 0, 0, 0] 8) true
def ow1 : Bool → List Bool → Int := upd2 noOw (!(decide ((([10, 0, 0, 0] : List UInt8)).length = 4))) (pathR [10, 0, 0, 0] 8) 1
def th2 : Bool → List Bool → Bool := upd2 th1 (!(decide ((([10, 0, 0, 0] : List UInt8)).length = 4))) (pathR [10, 0, 0, 0] 24) true
def ow2 : Bool → List Bool → Int := upd2 ow1 (!(decide ((([10, 0, 0, 0] : List UInt8)).length = 4))) (pathR [10, 0, 0, 0] 24) 2
theorem own_a : ownerV th2 ow2 [10, 0, 0, 9] = (2, true) := by decide +kernel
theorem own_b : ownerV th2 ow2 [10, 0, 1, 9] = (1, true) := by decide +kernel

theorem put_a (T : Nat) (v : Value) (bl : List Nat) (ad : Ads) (w : World) (hv : Rd w bl v (ints .u8 (byts [10, 0, 0, 0]))) (hT : TrIs w T bl ad noTh noOw) :
    Calls Try.prog 10 #[.pointer (some ⟨T, 0, none⟩), .agg #[v, .int .i64 8], .int .i64 1] w (PutPost T bl th1 ow1 w) := put_yes T v [10, 0, 0, 0] 8 1 bl ad noTh noOw w hv (by decide) (by decide) hT
theorem put_b (T : Nat) (v : Value) (bl : List Nat) (ad : Ads) (w : World) (hv : Rd w bl v (ints .u8 (byts [10, 0, 0, 0]))) (hT : TrIs w T bl ad th1 ow1) :
    Calls Try.prog 10 #[.pointer (some ⟨T, 0, none⟩), .agg #[v, .int .i64 24], .int .i64 2] w (PutPost T bl th2 ow2 w) := put_yes T v [10, 0, 0, 0] 24 2 bl ad th1 ow1 w hv (by decide) (by decide) hT
theorem own_c (T : Nat) (v : Value) (bl : List Nat) (ad : Ads) (w : World) (hv : Rd w bl v (ints .u8 (byts [10, 0, 0, 9]))) (hT : TrIs w T bl ad th2 ow2) :
    Calls Try.prog 17 #[.pointer (some ⟨T, 0, none⟩), v] w fun e w' => e = .returned (.tuple #[.int .i64 2, .bool true]) ∧ Only [] w w' := (owner_any T v [10, 0, 0, 9] bl bl ad th2 ow2 w hv (.inl rfl) hT).mono fun e w' h => by unfold OwnPost at h; rw [own_a] at h; exact h
theorem own_d (T : Nat) (v : Value) (bl : List Nat) (ad : Ads) (w : World) (hv : Rd w bl v (ints .u8 (byts [10, 0, 1, 9]))) (hT : TrIs w T bl ad th2 ow2) :
    Calls Try.prog 17 #[.pointer (some ⟨T, 0, none⟩), v] w fun e w' => e = .returned (.tuple #[.int .i64 1, .bool true]) ∧ Only [] w w' := (owner_any T v [10, 0, 1, 9] bl bl ad th2 ow2 w hv (.inl rfl) hT).mono fun e w' h => by unfold OwnPost at h; rw [own_b] at h; exact h

theorem chain_put {w c c2 : World} {bl bl2 : List Nat} (hc : Only [] w c) (hm : ∀ g ∈ bl, w.heap.size ≤ g) (ho : Only bl c c2) (hf : ∀ g ∈ bl2, g ∈ bl ∨ c.heap.size ≤ g) : Only [] w c2 ∧ ∀ g ∈ bl2, w.heap.size ≤ g :=
  ⟨((hc.mono (S' := bl) (fun x hx => by cases hx)).trans ho).mono fun x hx => .inr (hm x hx), fun g hg => (hf g hg).elim (hm g) (fun h => Nat.le_trans hc.size h)⟩

set_option maxRecDepth 100000 in
set_option maxHeartbeats 3200000 in
theorem awake08 (w : World) : Calls Try.prog 7 #[] w fun e w' => e = .returned (.bool true) ∧ Only [] w w' := by
  go_enter Try.func7, Try.ntmps7
  go_wp2_with (first
    | (go_at_call 8; refine (new_any _).mono ?_; rintro e w1 ⟨rfl, ht, ho⟩; have HT := hide ht; have HC := hide ho; have HM := hide (show ∀ g ∈ [w.heap.size], w.heap.size ≤ g from fun g hg => by rw [List.mem_singleton.1 hg]; exact Nat.le_refl _); clear ht ho)
    | (go_at_call 10; refine (put_a _ _ _ _ _ (rd_four _ _ HT.out.lt 10 0 0 0) (HT.out.only ((Only.refl [] _).alloc _) (by simp))).mono ?_; rintro e w2 ⟨rfl, bl1, ad1, ht, ho, hf⟩; obtain ⟨h1, h2⟩ := chain_put (HC.out.alloc _) HM.out ho hf; have HT1 := hide ht; have HC := hide h1; have HM := hide h2; clear ht ho hf HT h1 h2)
    | (go_at_call 10; refine (put_b _ _ _ _ _ (rd_four _ _ HT1.out.lt 10 0 0 0) (HT1.out.only ((Only.refl [] _).alloc _) (by simp))).mono ?_; rintro e w3 ⟨rfl, bl2, ad2, ht, ho, hf⟩; obtain ⟨h1, h2⟩ := chain_put (HC.out.alloc _) HM.out ho hf; have HT2 := hide ht; have HC := hide h1; have HM := hide h2; clear ht ho hf HT1 h1 h2)
    | (go_at_call 17; refine (own_c _ _ _ _ _ (rd_four _ _ HT2.out.lt 10 0 0 9) (HT2.out.only ((Only.refl [] _).alloc _) (by simp))).mono ?_; rintro e w4 ⟨rfl, ho⟩; have HT3 := hide (HT2.out.only (((Only.refl [] w3).alloc _).trans ho) (by simp)); have HC := hide ((HC.out.alloc _).trans ho); clear HT2 ho)
    | (go_at_call 17; refine (own_d _ _ _ _ _ (rd_four _ _ HT3.out.lt 10 0 1 9) (HT3.out.only ((Only.refl [] _).alloc _) (by simp))).mono ?_; rintro e w5 ⟨rfl, ho⟩; have HC := hide ((HC.out.alloc _).trans ho); clear HT3 ho))
  go_ret
  exact ⟨rfl, HC.out⟩

set_option maxRecDepth 100000 in
set_option maxHeartbeats 6400000 in
theorem trieNil_walk (v : Value) (l : List UInt8) (b x : Int) (w : World) (hv : Rd w [] v (ints .u8 (byts l))) :
    Calls Try.prog 4 #[.agg #[v, .int .i64 b], .int .i64 x] w fun e w' => e = .returned (.bool true) ∧ Only [] w w' := by
  have HO := hide ((Only.refl [] w).alloc (.cells #[v, .int .i64 b] 29))
  have HBX := hide (Blk.new w 29 #[v, .int .i64 b])
  obtain ⟨A, cap, rfl, hcp, hcm⟩ := hv.formb
  clear hv
  generalize l.length = n at *
  by_cases hbig : 40 < n
  · have h1 : (40 : Int) < n := by omega
    clear hbig
    go_enter Try.func4, Try.ntmps4
    go_wp2_with (go_at_call 7; refine (awake08 _).mono ?_; rintro e w1 ⟨rfl, ho⟩; have HC := hide (HO.out.trans ho); have HBX := hide (HBX.out.only ho (by simp)); have c0 := HBX.out.cell 0; have c1 := HBX.out.cell 1; simp at c0 c1; clear ho)
    go_ret
    exact ⟨rfl, HC.out⟩
  · have h1 : ¬ (40 : Int) < n := by omega
    clear hbig
    go_enter Try.func4, Try.ntmps4
    go_wp2_with (first
      | (go_at_call 7; refine (awake08 _).mono ?_; rintro e w1 ⟨rfl, ho⟩; have HC := hide (HO.out.trans ho); have HBX := hide (HBX.out.only ho (by simp)); have c0 := HBX.out.cell 0; have c1 := HBX.out.cell 1; simp at c0 c1; clear ho)
      | (go_at_call 17; refine (owner_nil _ _ _ _).mono ?_; rintro e w1 ⟨rfl, rfl⟩)
      | (go_at_call 10; refine (put_nil _ _ _ _ _ _).mono ?_; rintro e w9 ⟨rfl, ho⟩; have HC := hide (HC.out.trans ho); have HBX := hide (HBX.out.only ho (by simp)); have c0 := HBX.out.cell 0; have c1 := HBX.out.cell 1; simp at c0 c1; clear ho)
      | (go_at_call 14; refine (del_nil _ _ _ _ _).mono ?_; rintro e w9 ⟨rfl, ho⟩; have HC := hide (HC.out.trans ho); have HBX := hide (HBX.out.only ho (by simp)); have c0 := HBX.out.cell 0; have c1 := HBX.out.cell 1; simp at c0 c1; clear ho)
      | (go_at_call 16; refine (drop_nil _ _).mono ?_; rintro e w9 ⟨rfl, ho⟩; have HC := hide (HC.out.trans ho); have HBX := hide (HBX.out.only ho (by simp)); have c0 := HBX.out.cell 0; have c1 := HBX.out.cell 1; simp at c0 c1; clear ho)
      | (go_at_call 20; refine (rows_nil _).mono ?_; rintro e w9 ⟨rfl, ho⟩; have HC := hide (HC.out.trans ho); have HBX := hide (HBX.out.only ho (by simp)); have c0 := HBX.out.cell 0; have c1 := HBX.out.cell 1; simp at c0 c1; clear ho)
      | (go_at_call 21; refine (of_nil _ _).mono ?_; rintro e w9 ⟨rfl, ho⟩; have HC := hide (HC.out.trans ho); have HBX := hide (HBX.out.only ho (by simp)); have c0 := HBX.out.cell 0; have c1 := HBX.out.cell 1; simp at c0 c1; clear ho))
    go_ret
    exact ⟨rfl, HC.out⟩
end Go.Proofs.Ytjkgmkkhjpcngaa

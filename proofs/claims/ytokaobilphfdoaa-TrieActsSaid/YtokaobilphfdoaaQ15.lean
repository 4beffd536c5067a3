/-
  Walks and plain words (texts Tr6, Tx7, Apo, Tx8). No condition beyond those that each theorem states.
-/
import Derived.Test.YtokaobilphfdoaaChecked
import Derived.Test.YtokaobilphfdoaaQ14
namespace Go.Proofs.Ytokaobilphfdoaa
section
open Go.RowKit Go.Deep

/-- A slice of four bytes just built. -/
theorem rd_four (w : World) (bl : List Nat) (hb : ∀ g ∈ bl, g < w.heap.size) (a b c d : UInt8) :
    Rd (w.alloc (.cells #[.int .u8 (a.toNat : Int), .int .u8 (b.toNat : Int), .int .u8 (c.toNat : Int), .int .u8 (d.toNat : Int)] 5)) bl (.slice (some ⟨w.heap.size, 0, none⟩) 4 4) (ints .u8 (byts [a, b, c, d])) := by
  exact rd_new w 5 bl [.int .u8 (a.toNat : Int), .int .u8 (b.toNat : Int), .int .u8 (c.toNat : Int), .int .u8 (d.toNat : Int)] hb (by simp [maxLen])

def th1 : Bool → List Bool → Bool := upd2 noTh (!(decide ((([10, 0, 0, 0] : List UInt8)).length = 4))) (pathR [10, 0, 0, 0] 8) true
def ow1 : Bool → List Bool → Int := upd2 noOw (!(decide ((([10, 0, 0, 0] : List UInt8)).length = 4))) (pathR [10, 0, 0, 0] 8) 1
def th2 : Bool → List Bool → Bool := upd2 th1 (!(decide ((([10, 0, 0, 0] : List UInt8)).length = 4))) (pathR [10, 0, 0, 0] 24) true
def ow2 : Bool → List Bool → Int := upd2 ow1 (!(decide ((([10, 0, 0, 0] : List UInt8)).length = 4))) (pathR [10, 0, 0, 0] 24) 2
theorem own_a : ownerV th2 ow2 [10, 0, 0, 9] = (2, true) := by decide +kernel
theorem own_b : ownerV th2 ow2 [10, 0, 1, 9] = (1, true) := by decide +kernel

theorem put_a (T : Nat) (v : Value) (bl : List Nat) (ad : Ads) (w : World) (hv : Rd w bl v (ints .u8 (byts [10, 0, 0, 0]))) (hT : TrIs w T bl ad noTh noOw) :
    Calls Try.prog 7 #[.pointer (some ⟨T, 0, none⟩), .agg #[v, .int .i64 8], .int .i64 1] w (PutPost T bl th1 ow1 w) := put_yes T v [10, 0, 0, 0] 8 1 bl ad noTh noOw w hv (by decide) (by decide) hT
theorem put_b (T : Nat) (v : Value) (bl : List Nat) (ad : Ads) (w : World) (hv : Rd w bl v (ints .u8 (byts [10, 0, 0, 0]))) (hT : TrIs w T bl ad th1 ow1) :
    Calls Try.prog 7 #[.pointer (some ⟨T, 0, none⟩), .agg #[v, .int .i64 24], .int .i64 2] w (PutPost T bl th2 ow2 w) := put_yes T v [10, 0, 0, 0] 24 2 bl ad th1 ow1 w hv (by decide) (by decide) hT
theorem own_c (T : Nat) (v : Value) (bl : List Nat) (ad : Ads) (w : World) (hv : Rd w bl v (ints .u8 (byts [10, 0, 0, 9]))) (hT : TrIs w T bl ad th2 ow2) :
    Calls Try.prog 14 #[.pointer (some ⟨T, 0, none⟩), v] w fun e w' => e = .returned (.tuple #[.int .i64 2, .bool true]) ∧ Only [] w w' := (owner_any T v [10, 0, 0, 9] bl bl ad th2 ow2 w hv (.inl rfl) hT).mono fun e w' h => by unfold OwnPost at h; rw [own_a] at h; exact h
theorem own_d (T : Nat) (v : Value) (bl : List Nat) (ad : Ads) (w : World) (hv : Rd w bl v (ints .u8 (byts [10, 0, 1, 9]))) (hT : TrIs w T bl ad th2 ow2) :
    Calls Try.prog 14 #[.pointer (some ⟨T, 0, none⟩), v] w fun e w' => e = .returned (.tuple #[.int .i64 1, .bool true]) ∧ Only [] w w' := (owner_any T v [10, 0, 1, 9] bl bl ad th2 ow2 w hv (.inl rfl) hT).mono fun e w' h => by unfold OwnPost at h; rw [own_b] at h; exact h

theorem chain_put {w c c2 : World} {bl bl2 : List Nat} (hc : Only [] w c) (hm : ∀ g ∈ bl, w.heap.size ≤ g) (ho : Only bl c c2) (hf : ∀ g ∈ bl2, g ∈ bl ∨ c.heap.size ≤ g) : Only [] w c2 ∧ ∀ g ∈ bl2, w.heap.size ≤ g :=
  ⟨((hc.mono (S' := bl) (fun x hx => by cases hx)).trans ho).mono fun x hx => .inr (hm x hx), fun g hg => (hf g hg).elim (hm g) (fun h => Nat.le_trans hc.size h)⟩

set_option maxRecDepth 100000 in
set_option maxHeartbeats 3200000 in
theorem awake08 (w : World) : Calls Try.prog 4 #[] w fun e w' => e = .returned (.bool true) ∧ Only [] w w' := by
  go_enter Try.func4, Try.ntmps4
  go_wp2_with (first
    | (go_at_call 5; refine (new_any _).mono ?_; rintro e w1 ⟨rfl, ht, ho⟩; have HT := hide ht; have HC := hide ho; have HM := hide (show ∀ g ∈ [w.heap.size], w.heap.size ≤ g from fun g hg => by rw [List.mem_singleton.1 hg]; exact Nat.le_refl _); clear ht ho)
    | (go_at_call 7; refine (put_a _ _ _ _ _ (rd_four _ _ HT.out.lt 10 0 0 0) (HT.out.only ((Only.refl [] _).alloc _) (by simp))).mono ?_; rintro e w2 ⟨rfl, bl1, ad1, ht, ho, hf⟩; obtain ⟨h1, h2⟩ := chain_put (HC.out.alloc _) HM.out ho hf; have HT1 := hide ht; have HC := hide h1; have HM := hide h2; clear ht ho hf HT h1 h2)
    | (go_at_call 7; refine (put_b _ _ _ _ _ (rd_four _ _ HT1.out.lt 10 0 0 0) (HT1.out.only ((Only.refl [] _).alloc _) (by simp))).mono ?_; rintro e w3 ⟨rfl, bl2, ad2, ht, ho, hf⟩; obtain ⟨h1, h2⟩ := chain_put (HC.out.alloc _) HM.out ho hf; have HT2 := hide ht; have HC := hide h1; have HM := hide h2; clear ht ho hf HT1 h1 h2)
    | (go_at_call 14; refine (own_c _ _ _ _ _ (rd_four _ _ HT2.out.lt 10 0 0 9) (HT2.out.only ((Only.refl [] _).alloc _) (by simp))).mono ?_; rintro e w4 ⟨rfl, ho⟩; have HT3 := hide (HT2.out.only (((Only.refl [] w3).alloc _).trans ho) (by simp)); have HC := hide ((HC.out.alloc _).trans ho); clear HT2 ho)
    | (go_at_call 14; refine (own_d _ _ _ _ _ (rd_four _ _ HT3.out.lt 10 0 1 9) (HT3.out.only ((Only.refl [] _).alloc _) (by simp))).mono ?_; rintro e w5 ⟨rfl, ho⟩; have HC := hide ((HC.out.alloc _).trans ho); clear HT3 ho))
  go_ret
  exact ⟨rfl, HC.out⟩
end
section
open Go.RowKit Go.Deep

/-- The trie stands for m'; the rows read as m. -/
def Both (w0 : World) (T : Nat) (W : World) (m' : List Rw) (mv : Value) (m : List Rw) : Prop := ∃ bl, TabIs2 T bl m' W ∧ RowsRd 3 rowC W bl mv m ∧ ∀ g ∈ bl, w0.heap.size ≤ g
theorem tab_lt {T : Nat} {bl : List Nat} {m : List Rw} {W : World} (h : TabIs2 T bl m W) : ∀ g ∈ bl, g < W.heap.size := by obtain ⟨_, _, _, h1, _⟩ := h; exact h1.lt
theorem Both.only {w0 W W' : World} {T : Nat} {m' m : List Rw} {mv : Value} (h : Both w0 T W m' mv m) (ho : Only [] W W') : Both w0 T W' m' mv m := by
  obtain ⟨bl, h1, h2, h3⟩ := h
  exact ⟨bl, h1.only ho (by simp), h2.only ho (by simp), h3⟩
theorem RowsRd.less {k : Nat} {F : PRw → List Value} {w : World} {N N' : List Nat} {v : Value} {l : List Rw} (h : RowsRd k F w N v l) (hs : ∀ x ∈ N', x ∈ N) : RowsRd k F w N' v l := by
  obtain ⟨ps, h1, ⟨A, c, g1, g2, g3, g4⟩, h3⟩ := h
  exact ⟨ps, h1, ⟨A, c, g1, g2, g3, g4.imp id (fun ⟨g, o, e1, e2, e3⟩ => ⟨g, o, e1, fun hh => e2 (hs _ hh), e3⟩)⟩, fun p hp => (h3 p hp).less hs⟩
theorem RowsRd.more {k : Nat} {F : PRw → List Value} {w : World} {N N' : List Nat} {v : Value} {l : List Rw} (h : RowsRd k F w N v l) (hs : ∀ x ∈ N', x ∈ N ∨ w.heap.size ≤ x) : RowsRd k F w N' v l := by
  obtain ⟨ps, h1, h2, h3⟩ := h
  exact ⟨ps, h1, h2.more hs, fun p hp => rd_more (h3 p hp) hs⟩
theorem rd_in {w0 W : World} {bl : List Nat} {v : Value} {xs : List Value} (h : Rd w0 [] v xs) (ho : Only [] w0 W) (hb : ∀ g ∈ bl, w0.heap.size ≤ g) : Rd W bl v xs :=
  (rd_more h (fun x hx => .inr (hb x hx))).only ho (by simp)
section
variable {w0 W : World} {T : Nat} {m' m : List Rw} {mv : Value}
theorem put_both {Wp : World} {pv : Value} {pl : List UInt8} {pb : Nat} {x : Int} (hr : rightV pl pb = true) (hx : 0 ≤ x) (hB : Both w0 T Wp m' mv m) (hw : Only [] Wp W) (h0 : Only [] w0 W) (hp : Rd w0 [] pv (ints .u8 (byts pl))) :
    Calls Try.prog 7 #[.pointer (some ⟨T, 0, none⟩), .agg #[pv, .int .i64 pb], .int .i64 x] W fun e W' => e = .returned (.int .i64 0) ∧ Both w0 T W' (putV m' (plainV pl pb, pb) x) mv m ∧ Only [] w0 W' ∧ ∀ (g : Nat) (t : TypeId) (cs : Array Value), Wp.heap.size ≤ g → Blk W g t cs → Blk W' g t cs := by
  have hlt : ∃ bl, ((∃ ad th ow, TrIs W T bl ad th ow ∧ MInv m' th ow ∧ ZeroOw th ow) ∧ RowsRd 3 rowC W bl mv m ∧ ∀ g ∈ bl, w0.heap.size ≤ g) ∧ ∀ g ∈ bl, g < Wp.heap.size := by
    obtain ⟨bl, h1, h4, h5⟩ := hB
    exact ⟨bl, ⟨h1.only hw (by simp), h4.only hw (by simp), h5⟩, tab_lt h1⟩
  obtain ⟨bl, ⟨⟨ad, th, ow, h1, h2, h3⟩, h4, h5⟩, hlt⟩ := hlt
  refine (put_yes T pv pl pb x bl ad th ow W (rd_in hp h0 h5) hr hx h1).mono ?_
  rintro e W' ⟨rfl, bl', ad', g1, g2, g3⟩
  refine ⟨rfl, ⟨bl', ⟨ad', _, _, g1, h2.put hr x, zero_put h3 _ _ _⟩, ?_, fun g hg => (g3 g hg).elim (h5 g) (fun h => Nat.le_trans h0.size h)⟩, only_new h0 g2 h5, fun g t cs hg hb => hb.only g2 (fun hh => by have := hlt g hh; omega)⟩
  refine ((h4.more (N' := bl ++ bl') (fun y hy => ?_)).only g2 (fun y hy => List.mem_append_left _ hy)).less (fun y hy => List.mem_append_right _ hy)
  rcases List.mem_append.1 hy with hy | hy
  · exact .inl hy
  · exact g3 y hy
theorem own_off {al : List UInt8} (h : ¬ (al.length = 4 ∨ al.length = 16)) : ownR m al = (0, false) := by
  have key : ∀ (l : List Rw), bestR al l none = none := by
    intro l
    induction l with
    | nil => rfl
    | cons r l ih =>
      have hb : betV al r none = false := by
        unfold betV hasV rightV
        by_cases hl : al.length = r.1.length
        · rw [← hl]
          have h4 : ¬ al.length = 4 := fun e => h (.inl e)
          have h16 : ¬ al.length = 16 := fun e => h (.inr e)
          simp [h4, h16]
        · simp [hl]
      show bestR al l (if betV al r none then some r else none) = none
      rw [hb]
      exact ih
  unfold ownR
  rw [key]
theorem owner_both {va : Value} {al : List UInt8} (hB : Both w0 T W m' mv m) (ha : Rd W [] va (ints .u8 (byts al))) :
    Calls Try.prog 14 #[.pointer (some ⟨T, 0, none⟩), va] W (OwnPost (ownR m' al) W) := by
  obtain ⟨bl, ⟨ad, th, ow, h1, h2, h3⟩, h4, h5⟩ := hB
  by_cases h : al.length = 4 ∨ al.length = 16
  · rw [own_same h2 h]
    exact owner_any T va al [] bl ad th ow W ha h h1
  · rw [own_off h]
    obtain ⟨A, c, rfl, _, _⟩ := ha.formb
    refine (owner_off T A al.length c W (fun e => h (.inl e)) (fun e => h (.inr e))).mono ?_
    rintro e W' ⟨rfl, rfl⟩
    exact ⟨rfl, Only.refl [] W⟩
theorem refowner_both {va : Value} {al : List UInt8} (hl : m.length ≤ 1000) (hB : Both w0 T W m' mv m) (ha : Rd W [] va (ints .u8 (byts al))) :
    Calls Try.prog 15 #[mv, va] W (OwnPost (ownR m al) W) := by
  obtain ⟨bl, h1, h4, h5⟩ := hB
  exact refowner_any mv va m al bl [] W h4 ha hl
theorem refput_both {Wp : World} {pv : Value} {pl : List UInt8} {pb : Nat} {x : Int} (hl : m.length ≤ 1000) (hB : Both w0 T Wp m' mv m) (ho : Only [] Wp W) (hp : ∀ N : List Nat, (∀ x ∈ N, x < Wp.heap.size) → Rd W N pv (ints .u8 (byts pl))) :
    Calls Try.prog 8 #[mv, .agg #[pv, .int .i64 pb], .int .i64 x] W fun e W' => ∃ v', e = .returned v' ∧ Both w0 T W' m' v' (putV m (pl, pb) x) ∧ Only [] W W' := by
  obtain ⟨bl, h1, h4, h5⟩ := hB
  have hlt := tab_lt h1
  refine (refput_any mv pv m pl pb x bl W (h4.only ho (by simp)) (hp bl hlt) (fun y hy => Nat.lt_of_lt_of_le (hlt y hy) ho.size) hl).mono ?_
  rintro e W' ⟨v', rfl, g1, g2⟩
  exact ⟨v', rfl, ⟨bl, (h1.only ho (by simp)).only g2 (by simp), g1, h5⟩, g2⟩
theorem even_both {x : Int} (hl : m.length ≤ 1000) (hB : Both w0 T W m mv m) :
    Calls Try.prog 16 #[.pointer (some ⟨T, 0, none⟩), mv, .int .i64 x] W fun e w' => e = .returned (.bool true) ∧ Only [] W w' := by
  obtain ⟨bl, h1, h4, h5⟩ := hB
  exact even_any T bl m mv x W h1 hl h4
theorem Both.form (hB : Both w0 T W m' mv m) : ∃ A c, mv = .slice A m.length c := by
  obtain ⟨bl, h1, h4, h5⟩ := hB
  obtain ⟨A, c, h, _, _⟩ := h4.form
  exact ⟨A, c, h⟩
theorem both_new {w0 : World} : Calls Try.prog 5 #[] W fun e W' => e = .returned (.pointer (some ⟨W.heap.size, 0, none⟩)) ∧ TabIs2 W.heap.size [W.heap.size] [] W' ∧ Only [] W W' := by
  refine (new_any W).mono ?_
  rintro e W' ⟨rfl, h1, h2⟩
  exact ⟨rfl, ⟨_, _, _, h1, minv_nil, fun _ _ _ => rfl⟩, h2⟩
theorem put_len {p : List UInt8 × Nat} {x : Int} : (putV m p x).length ≤ m.length + 1 := by
  have h := delV_len m p
  have h2 : ((delV m p).takeWhile (fun r => befV (pf r) p) ++ (delV m p).dropWhile (fun r => befV (pf r) p)).length = (delV m p).length := by rw [List.takeWhile_append_dropWhile]
  rw [List.length_append] at h2
  show ((delV m p).takeWhile (fun r => befV (pf r) p) ++ (p.1, p.2, x) :: (delV m p).dropWhile (fun r => befV (pf r) p)).length ≤ _
  rw [List.length_append, List.length_cons]
  generalize ((delV m p).takeWhile (fun r => befV (pf r) p)).length = a1 at *
  generalize ((delV m p).dropWhile (fun r => befV (pf r) p)).length = a2 at *
  omega
theorem drop_len {x : Int} : (dropV m x).length ≤ m.length := List.length_filter_le _ _
end
/-- As Both, the trie's blocks below B. -/
def BothB (w0 : World) (T : Nat) (W : World) (m' : List Rw) (mv : Value) (m : List Rw) (B : Nat) : Prop := ∃ bl, TabIs2 T bl m' W ∧ RowsRd 3 rowC W bl mv m ∧ (∀ g ∈ bl, w0.heap.size ≤ g) ∧ ∀ g ∈ bl, g < B
section
variable {w0 W : World} {T B : Nat} {m' m : List Rw} {mv : Value}
theorem Both.bound (h : Both w0 T W m' mv m) : BothB w0 T W m' mv m W.heap.size := by
  obtain ⟨bl, h1, h2, h3⟩ := h
  exact ⟨bl, h1, h2, h3, tab_lt h1⟩
theorem BothB.both (h : BothB w0 T W m' mv m B) : Both w0 T W m' mv m := by
  obtain ⟨bl, h1, h2, h3, _⟩ := h
  exact ⟨bl, h1, h2, h3⟩
theorem BothB.only {W' : World} (h : BothB w0 T W m' mv m B) (ho : Only [] W W') : BothB w0 T W' m' mv m B := by
  obtain ⟨bl, h1, h2, h3, h4⟩ := h
  exact ⟨bl, h1.only ho (by simp), h2.only ho (by simp), h3, h4⟩
theorem del_bound {pv : Value} {pl : List UInt8} {pb : Nat} (hr : rightV pl pb = true) (hB : BothB w0 T W m' mv m B) (h0 : Only [] w0 W) (hp : Rd w0 [] pv (ints .u8 (byts pl))) :
    Calls Try.prog 11 #[.pointer (some ⟨T, 0, none⟩), .agg #[pv, .int .i64 pb]] W fun e W' => e = .returned (.bool (wasV m' (plainV pl pb, pb))) ∧ Both w0 T W' (delV m' (plainV pl pb, pb)) mv m ∧ Only [] w0 W' ∧ ∀ (g : Nat) (t : TypeId) (cs : Array Value), B ≤ g → Blk W g t cs → Blk W' g t cs := by
  obtain ⟨bl, h1, h4, h5, h6⟩ := hB
  refine (del_tab T pv pl pb bl m' W (rd_in hp h0 h5) hr h1).mono ?_
  rintro e W' ⟨rfl, g1, g2⟩
  exact ⟨rfl, ⟨bl, g1, h4.only g2 (fun y hy => hy), h5⟩, only_new h0 g2 h5, fun g t cs hg hb => hb.only g2 (fun hh => by have := h6 g hh; omega)⟩
theorem drop_bound {x : Int} (hl : m'.length ≤ 1000) (hB : BothB w0 T W m' mv m B) (h0 : Only [] w0 W) :
    Calls Try.prog 13 #[.pointer (some ⟨T, 0, none⟩), .int .i64 x] W fun e W' => e = .returned (.int .i64 ((ofV m' x).length : Int)) ∧ Both w0 T W' (dropV m' x) mv m ∧ Only [] w0 W' ∧ ∀ (g : Nat) (t : TypeId) (cs : Array Value), B ≤ g → Blk W g t cs → Blk W' g t cs := by
  obtain ⟨bl, h1, h4, h5, h6⟩ := hB
  refine (drop_tab T x bl m' W hl h1).mono ?_
  rintro e W' ⟨rfl, g1, g2⟩
  exact ⟨rfl, ⟨bl, g1, h4.only g2 (fun y hy => hy), h5⟩, only_new h0 g2 h5, fun g t cs hg hb => hb.only g2 (fun hh => by have := h6 g hh; omega)⟩
theorem refdel_bound {Wp : World} {pv : Value} {pl : List UInt8} {pb : Nat} (hl : m.length ≤ 1000) (hB : BothB w0 T Wp m' mv m B) (ho : Only [] Wp W) (hp : ∀ N : List Nat, (∀ x ∈ N, x < B) → Rd W N pv (ints .u8 (byts pl))) :
    Calls Try.prog 10 #[mv, .agg #[pv, .int .i64 pb]] W fun e W' => ∃ v', e = .returned (.tuple #[v', .bool (wasV m (pl, pb))]) ∧ BothB w0 T W' m' v' (delV m (pl, pb)) B ∧ Only [] W W' := by
  obtain ⟨bl, h1, h4, h5, h6⟩ := hB
  have hlt := tab_lt h1
  refine (refdel_any mv pv m pl pb bl W (h4.only ho (by simp)) (hp bl h6) (fun y hy => Nat.lt_of_lt_of_le (hlt y hy) ho.size) hl).mono ?_
  rintro e W' ⟨v', rfl, g1, g2⟩
  exact ⟨v', rfl, ⟨bl, (h1.only ho (by simp)).only g2 (by simp), g1, h5, h6⟩, g2⟩
theorem refdrop_bound {x : Int} (hl : m.length ≤ 1000) (hB : BothB w0 T W m' mv m B) :
    Calls Try.prog 12 #[mv, .int .i64 x] W fun e W' => ∃ v', e = .returned v' ∧ BothB w0 T W' m' v' (dropV m x) B ∧ Only [] W W' := by
  obtain ⟨bl, h1, h4, h5, h6⟩ := hB
  refine (refdrop_any mv m x bl W h4 (tab_lt h1) hl).mono ?_
  rintro e W' ⟨v', rfl, g1, g2⟩
  exact ⟨v', rfl, ⟨bl, h1.only g2 (by simp), g1, h5, h6⟩, g2⟩
end
/-- An act: its kind, its prefix's bytes (with their value) and bits, its owner. -/
abbrev Ac := Value × Int × (List UInt8 × Int) × Int
def acC8 (a : Ac) : List Value := [.int .u8 a.2.1, a.1, .int .i64 a.2.2.1.2, .int .i64 a.2.2.2]
end
section
open Go.RowKit Go.Deep Go.ChangeShapes Go.WideShapes Go.ChangeAt

theorem list_two {α : Type} {l : List α} (h : l.length = 2) : ∃ a b, l = [a, b] := by
  match l, h with
  | [a, b], _ => exact ⟨a, b, rfl⟩
theorem u8_in {n : Int} (h : (Lit.int .u8 n).wf = true) : 0 ≤ n ∧ n ≤ 255 := by
  simp only [Lit.wf, Bool.and_eq_true, decide_eq_true_eq] at h
  have e1 : IntKind.u8.min = 0 := rfl
  have e2 : IntKind.u8.max = 255 := rfl
  omega
section
variable {H : Type} {enc : TypeId × Value → H} {w : World} {base : Nat} {spare : Nat → Bool} {held : Bool}
end
end
section
open Go.RowKit Go.Deep Go.ChangeShapes Go.WideShapes Go.ChangeAt

theorem list_four {α : Type} {l : List α} (h : l.length = 4) : ∃ a b c d, l = [a, b, c, d] := by
  match l, h with
  | [a, b, c, d], _ => exact ⟨a, b, c, d, rfl⟩
section
variable {H : Type} {enc : TypeId × Value → H} {w : World} {base : Nat} {spare : Nat → Bool} {held : Bool}
set_option maxRecDepth 100000 in
theorem dec_pfx {n : Nat} {cs : List Value} {y : DataW H × List MemPlace} (h : DataW.trod enc Try.prog w base spare held n 29 cs = some y) : ∃ (u : Value) (l : List UInt8) (b : Int), cs = [u, .int .i64 b] ∧ Rd w [] u (ints .u8 (byts l)) := by
  obtain ⟨xs, m, _, _, hl, hx, hf⟩ := DataW.trod_struct Try.underlying29 h
  rw [show Try.prog.cellsOf 29 = 2 from by kernel_rfl] at hl
  obtain ⟨a, b, hc⟩ := list_two hl
  rw [hc] at hf
  have h0 := hf 0 _ rfl
  have h1 := hf 1 _ rfl
  simp only [List.getElem_toArray, List.getElem_cons_zero, List.getElem_cons_succ, show Try.prog.cellsOf 23 = 1 from by kernel_rfl, show Try.prog.cellsOf 3 = 1 from by kernel_rfl] at h0 h1
  rw [List.getElem?_eq_getElem (by rw [hx]; decide)] at h0 h1
  obtain ⟨z, hz, _, _⟩ := DataW.trod_int Try.underlying3 h1
  simp at hz
  have hsl : ∃ A len cap, a = .slice A len cap := by
    rcases open_slice Try.underlying23 h0 with ⟨hcs, _⟩ | ⟨a, l, c', _, _, _, _, hcs, _⟩
    · simp at hcs
      exact ⟨_, _, _, hcs⟩
    · simp at hcs
      exact ⟨_, _, _, hcs⟩
  obtain ⟨A, len, cap, rfl⟩ := hsl
  obtain ⟨zs, hr, hw⟩ := rd_of_trod (k := .u8) (A := A) (len := len) (cap := cap) (d := (xs[0]'(by rw [hx]; decide)).1) (p := (xs[0]'(by rw [hx]; decide)).2) Try.underlying23 Try.underlying5 (by kernel_rfl) ⟨m, by simpa [Value.cells] using h0⟩
  obtain ⟨l, rfl⟩ := byts_of zs fun n hn => u8_in (hw n hn)
  exact ⟨_, l, z, by rw [hc, hz], hr⟩
def ActOk (w : World) (a : Ac) : Prop := (0 ≤ a.2.1 ∧ a.2.1 ≤ 255) ∧ Rd w [] a.1 (ints .u8 (byts a.2.2.1.1))
set_option maxRecDepth 100000 in
theorem dec_act {n : Nat} {cs : List Value} {y : DataW H × List MemPlace} (h : DataW.trod enc Try.prog w base spare held n 31 cs = some y) : ∃ a : Ac, acC8 a = cs ∧ ActOk w a := by
  obtain ⟨xs, m, _, _, hl, hx, hf⟩ := DataW.trod_struct Try.underlying31 h
  rw [show Try.prog.cellsOf 31 = 4 from by kernel_rfl] at hl
  obtain ⟨a, b, c, d, hc⟩ := list_four hl
  rw [hc] at hf
  have h0 := hf 0 _ rfl
  have h1 := hf 1 _ rfl
  have h2 := hf 2 _ rfl
  simp only [List.getElem_toArray, List.getElem_cons_zero, List.getElem_cons_succ, show Try.prog.cellsOf 5 = 1 from by kernel_rfl, show Try.prog.cellsOf 29 = 2 from by kernel_rfl, show Try.prog.cellsOf 3 = 1 from by kernel_rfl] at h0 h1 h2
  rw [List.getElem?_eq_getElem (by rw [hx]; decide)] at h0 h1 h2
  obtain ⟨k, hk, _, wk⟩ := DataW.trod_int Try.underlying5 h0
  obtain ⟨z, hz, _, _⟩ := DataW.trod_int Try.underlying3 h2
  obtain ⟨u, l, bb, hp, hr⟩ := dec_pfx h1
  simp at hk hz hp
  refine ⟨(u, k, (l, bb), z), ?_, u8_in wk, hr⟩
  rw [hc, hk, hz]
  unfold acC8
  simp [hp]
def ActsRd (w : World) (v : Value) (l : List Ac) : Prop := RdS 4 acC8 w [] v l ∧ ∀ a ∈ l, ActOk w a
set_option maxRecDepth 100000 in
theorem open_acts8 {A : Option Addr} {len cap : Nat} {d : DataW H} {ps : List MemPlace} (h : DataW.Trod enc Try.prog w base spare held 22 (.slice A len cap) d ps) : ∃ l, ActsRd w (.slice A len cap) l :=
  rds_of_trod (k := 4) (F := acC8) (Q := ActOk w) Try.underlying22 (by kernel_rfl) (by omega) h fun _ _ _ hy => dec_act hy
end
end
end Go.Proofs.Ytokaobilphfdoaa

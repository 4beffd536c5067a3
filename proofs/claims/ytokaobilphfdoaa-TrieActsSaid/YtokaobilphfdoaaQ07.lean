/-
  Walks and plain words (texts Tr7, Rf, Tr8, Rg). No condition beyond those that each theorem states.
-/
import Derived.RangeFuncNested
import Derived.RangeFuncBound
import Derived.RangeFuncCalls
import Derived.RangeFuncLeaves
import Derived.Shelf.Abstract
import Derived.Shelf.RegionOpen
import Derived.OwnWalkIn
import Derived.TacticsInMore
import Derived.LoopNIn
import Derived.LoopIn
import Derived.OrdersHeld
import Derived.Deep.RegionHeld
import Derived.OrdersIn
import Derived.Test.YtokaobilphfdoaaQ03
namespace Go.Proofs.Ytokaobilphfdoaa
section
open Go.RowKit Go.Deep

def bareV (ad : Ads) (th : ThF) (s : Bool) (π : List Bool) : Bool := !(th s π) && (ad s (false :: π)).isNone && (ad s (true :: π)).isNone
set_option maxRecDepth 100000 in
theorem bare_any (T : Nat) (bl : List Nat) (ad : Ads) (th : ThF) (ow : OwF) (s : Bool) (π : List Bool) (g o : Nat) (w : World) (hT : TrIs w T bl ad th ow) (ha : ad s π = some (g, o)) :
    Calls Try.prog 25 #[.pointer (some ⟨g, o, none⟩)] w fun e w' => e = .returned (.bool (bareV ad th s π)) ∧ w = w' := by
  obtain ⟨_, d1, hk⟩ := hT.at_ ha
  have k0 := hk false
  have k1 := hk true
  simp only [Bool.toNat_false, Bool.toNat_true, Nat.add_zero] at k0 k1
  rw [← Nat.add_assoc] at k1
  unfold bareV
  generalize th s π = t at *
  generalize ad s (false :: π) = x at *
  generalize ad s (true :: π) = y at *
  clear hk ha hT
  cases t with
  | true =>
    go_enter Try.func25, Try.ntmps25
    go_wp2
    go_ret
    exact ⟨rfl, rfl⟩
  | false =>
    cases x with
    | some p =>
      simp only [kidV, Option.map_some] at k0
      go_enter Try.func25, Try.ntmps25
      go_wp2
      go_ret
      exact ⟨rfl, rfl⟩
    | none =>
      simp only [kidV, Option.map_none] at k0
      cases y with
      | some p =>
        simp only [kidV, Option.map_some] at k1
        go_enter Try.func25, Try.ntmps25
        go_wp2
        go_ret
        exact ⟨rfl, rfl⟩
      | none =>
        simp only [kidV, Option.map_none] at k1
        go_enter Try.func25, Try.ntmps25
        go_wp2
        go_ret
        exact ⟨rfl, rfl⟩

theorem wp_scope_fallst {P : Program} {a : Act} {w : World} {Q : Exit → Act → World → Prop} {c rest : Code} (l : Nat) (J : Act → World → Prop) (μ : Act → World → Nat) (hf : findLabel c l = some (Code.skip.seq rest))
    (pass : ∀ a w, J a w → rest.wp P (Exit.jump l (fun a' w' => J a' w' ∧ μ a' w' < μ a w) Q) a w)
    (first : (∀ a w, J a w → rest.wp P (Exit.jump l J Q) a w) → c.wp P (Exit.jump l J Q) a w) : (Code.scope c).wp P Q a w :=
  wp_scope_jumps l J μ hf (first fun a w hJ => wp_mono (pass a w hJ) (by
    intro e a' w' h
    cases e with
    | goto l' => exact ⟨h.1, h.2.1⟩
    | normal => exact h
    | exit id => exact h
    | ret => exact h
    | panic ch => exact h
    | outgrown => exact h)) (by
    intro a w hJ
    apply wp_seq_k
    intro K hK
    apply wp_skip
    exact hK _ _ (pass a w hJ))
/-- The nodes from the root to the place behind k bits. -/
def wayL (ad : Ads) (s : Bool) (l : List UInt8) (k : Nat) : List Value := (List.range k).map fun j => kidV (ad s (pathR l j))
theorem wayL_snoc (ad : Ads) (s : Bool) (l : List UInt8) (k : Nat) : wayL ad s l k ++ [kidV (ad s (pathR l k))] = wayL ad s l (k + 1) := by
  unfold wayL; rw [List.range_succ, List.map_append]; rfl
def WayPost (bl : List Nat) (ad : Ads) (s : Bool) (l : List UInt8) (b : Nat) (w : World) (e : Ending) (w' : World) : Prop :=
  Only [] w w' ∧ ((ad s (pathR l b) = none ∧ e = .returned (.slice none 0 0)) ∨
    ((ad s (pathR l b)).isSome = true ∧ ∃ v, e = .returned v ∧ w'.ownsRow w.heap.size 46 1 v (b + 1) (wayL ad s l (b + 1))))
def WayJ (w : World) (T : Nat) (A : Option Addr) (n cap : Nat) (ad : Ads) (s : Bool) (l : List UInt8) (b : Nat) (a' : Act) (w' : World) : Prop :=
  ∃ (k g o : Nat) (v u2 u8 u9 u10 u11 u12 u13 u14 u15 u16 u17 u18 u19 u20 u21 u22 u23 u24 u25 u26 u27 u28 u29 u30 u31 u32 u33 u34 u35 u36 : Value), a' = ⟨#[.pointer (some ⟨T, 0, none⟩), .agg #[.slice A n cap, .int .i64 b], u2, .pointer (some ⟨w.heap.size, 0, none⟩), .slice none 0 0, .pointer (some ⟨g, o, none⟩), v, .int .i64 k, u8, u9, u10, u11, u12, u13, u14, u15, u16, u17, u18, u19, u20, u21, u22, u23, u24, u25, u26, u27, u28, u29, u30, u31, u32, u33, u34, u35, u36], []⟩ ∧ k ≤ b ∧ ad s (pathR l k) = some (g, o) ∧ Only [] w w' ∧ Blk w' w.heap.size 29 #[.slice A n cap, .int .i64 b] ∧ w'.ownsRow (w.heap.size + 1) 46 1 v (k + 1) (wayL ad s l (k + 1)) ∧ w.heap.size + 1 ≤ w'.heap.size
theorem info_node : (Try.prog.info? 46).map (fun i => (i.zero, i.size, i.bytes)) = some (some (.pointer none), 1, 8) := by kernel_rfl
set_option maxRecDepth 100000 in
set_option maxHeartbeats 6400000 in
theorem way_any (T : Nat) (v : Value) (l : List UInt8) (b : Nat) (bl : List Nat) (ad : Ads) (th : ThF) (ow : OwF) (w : World) (hv : Rd w bl v (ints .u8 (byts l))) (hr : rightV l b = true) (hT : TrIs w T bl ad th ow) :
    Calls Try.prog 23 #[.pointer (some ⟨T, 0, none⟩), .agg #[v, .int .i64 b]] w (WayPost bl ad (sz l) l b w) := by
  obtain ⟨i0, hi, hz0, hz1, hz2⟩ := info_parts info_node
  have HO := hide ((Only.refl [] w).alloc (.cells #[v, .int .i64 b] 29))
  have HVW := hide hv
  have HBX := hide (Blk.new w 29 #[v, .int .i64 b])
  have HTW := hide hT
  obtain ⟨A, cap, rfl, hcp, hcm⟩ := hv.formb
  obtain ⟨hb8, hsz⟩ := right_len hr
  have hl16 : l.length ≤ 16 := by omega
  have hb128 : b ≤ 128 := by omega
  have HB8 := hide hb8
  obtain ⟨n, hn⟩ : ∃ n, n = l.length := ⟨_, rfl⟩
  rw [← hn] at HVW HBX HO hcp hl16 HB8 ⊢
  have HN := hide hn
  obtain ⟨s, hs⟩ : ∃ s, s = sz l := ⟨_, rfl⟩
  have HS := hide (show s = !(decide (n = 4)) by rw [hs, hn]; rfl)
  rw [← hs]
  clear hv hr hn hs hb8 hT hsz
  go_enter Try.func23, Try.ntmps23
  go_wp2_with fail
  refine wp_scope_fallst 0 (WayJ w T A n cap ad s l b) (fun a' _ => b - (intOf (a'.tmps.getD 7 undef)).toNat) rfl ?_ ?_
  · rintro a' w' ⟨k, g, o, v, u2, u8, u9, u10, u11, u12, u13, u14, u15, u16, u17, u18, u19, u20, u21, u22, u23, u24, u25, u26, u27, u28, u29, u30, u31, u32, u33, u34, u35, u36, rfl, hk, ha, hon, hbx, hown, hsz⟩
    have HX := hide hon
    have HBX2 := hide hbx
    have c0 := hbx.cell 0
    have c1 := hbx.cell 1
    simp at c0 c1
    have HOWN := hide hown
    have HA := hide ha
    have HSZ := hide hsz
    have HT2 := hide (HTW.out.only hon (by simp))
    have HV2 := hide (HVW.out.only hon (by simp))
    obtain ⟨Av, cv, rfl, _, _⟩ := own_form hown
    clear hbx hon hown ha hsz
    by_cases hlt : k < b
    · have hne : ((k : Int) == (b : Int)) = false := by rw [beq_eq_false_iff_ne]; omega
      obtain ⟨bb, hbb, hpath⟩ := bit_bool l k
      obtain ⟨q, hq⟩ : ∃ q, q = bb.toNat := ⟨_, rfl⟩
      have hq2 : q < 2 := by rw [hq]; cases bb <;> decide
      have HK := hide (fun n0 => tbit_any _ l bl k (w'.drewN n0) (HV2.out.only ((Only.refl [] w').drewN n0) (by simp)) (by rw [← HN.out]; have := HB8.out; omega) (by rw [← HN.out]; omega))
      rw [hbb, ← hq] at HK
      obtain ⟨_, _, hkid⟩ := HT2.out.at_ HA.out
      have hkid := hkid bb
      rw [← hq, ← Nat.add_assoc] at hkid
      have HP := hide hpath
      clear hq hpath hbb
      cases hc : ad s (bb :: pathR l k) with
      | none =>
        rw [hc] at hkid
        simp only [kidV, Option.map_none] at hkid
        have HCC := hide (show ad s (pathR l (k + 1)) = none by rw [HP.out]; exact hc)
        have HLT := hide hlt
        clear hc
        go_wp2_with fail
        go_quiet (exact quiet_left (HK.out _))
        go_wp2_with fail
        simp only [Exit.jump]
        go_ret
        refine ⟨HX.out.drewN _, .inl ⟨?_, rfl⟩⟩
        have h := path_none HTW.out.ads HCC.out (b - (k + 1))
        rw [show k + 1 + (b - (k + 1)) = b by have := HLT.out; omega] at h
        exact h
      | some p =>
        obtain ⟨g2, o2⟩ := p
        rw [hc] at hkid
        simp only [kidV, Option.map_some] at hkid
        have HCC := hide (show ad s (pathR l (k + 1)) = some (g2, o2) by rw [HP.out]; exact hc)
        have HSN := hide (show wayL ad s l (k + 1) ++ [.pointer (some ⟨g2, o2, none⟩)] = wayL ad s l (k + 1 + 1) by rw [← wayL_snoc ad s l (k + 1), HCC.out]; rfl)
        clear hc
        have HOW2 := hide (fun m => World.ownsRow.alloc (w := w'.drewN m) HOWN.out (.cells #[.pointer (some ⟨g2, o2, none⟩)] 46))
        have HRN := hide (fun m => reads_one (w'.drewN m) 46 (.pointer (some ⟨g2, o2, none⟩)) ((w'.drewN m).heap.size + 1) (Nat.lt_succ_self _))
        go_wp2_with fail
        go_quiet (exact quiet_left (HK.out _))
        go_wp2_with (at_builtin; (refine wpList_append_any _ rfl (.tmp 31) (.tmp 33) 59 rfl (w.heap.size + 1) 46 i0 (.pointer none) 1 8 Try.underlying59 hi hz0 hz1 hz2 rfl (by decide) _ (k + 1) _ rfl (HOW2.out _) _ _ 1 1 [.pointer (some ⟨g2, o2, none⟩)] rfl (HRN.out _) (by simp [Value.oneCell']) (by unfold maxLen; omega) (by omega) (by have := HSZ.out; simp; omega) ?_); intro v2 w2 hown2 hg2 _; have HOWN3 := hide hown2; have HX3 := hide (((HX.out.drewN _).alloc _).grown hg2 (fun j hj => .inr (by have := own_block_ge HOWN.out hj; omega))); have HBX3 := hide (((HBX2.out.drewN _).alloc _).grown hg2 (fun hj => by have := own_block_ge HOWN.out hj.symm; omega)); have HSZ3 := hide (Nat.le_trans HSZ.out (Nat.le_trans (by simp) hg2.size)); clear hown2 hg2)
        go_step3
        refine ⟨rfl, ⟨k + 1, g2, o2, v2, _, _, _, _, _, _, _, _, _, _, _, _, _, _, _, _, _, _, _, _, _, _, _, _, _, _, _, _, _, _, rfl, by omega, HCC.out, HX3.out, HBX3.out, by rw [← HSN.out]; exact HOWN3.out, HSZ3.out⟩, ?_⟩
        simp [intOf]
        omega
    · obtain rfl : k = b := by omega
      have heq : ((k : Int) == (k : Int)) = true := by rw [beq_iff_eq]
      go_wp2_with fail
      simp only [Exit.jump]
      go_ret
      refine ⟨HX.out, .inr ⟨by rw [HA.out]; rfl, _, rfl, own_base HOWN.out (Nat.le_succ _)⟩⟩
  · intro pass
    have HPASS := hide pass
    clear pass
    obtain ⟨w1, hw1⟩ : ∃ w1, w1 = w.alloc (.cells #[.slice A n cap, .int .i64 b] 29) := ⟨_, rfl⟩
    have HS1 := hide (show w1.heap.size = w.heap.size + 1 by rw [hw1, World.size_alloc])
    have HP := hide (Blk.new w1 46 #[.pointer (some ⟨T, rootOff s, none⟩)])
    have HOW0 := hide (own_of_blk (base := w.heap.size + 1) (cur := [.pointer (some ⟨T, rootOff s, none⟩)]) (n := 1) (cap := 1) HP.out (by rw [HS1.out]; exact Nat.le_refl _) (by omega) (by unfold maxLen; omega) rfl)
    have HO1 := hide ((by rw [hw1]; exact HO.out : Only [] w w1).alloc (.cells #[.pointer (some ⟨T, rootOff s, none⟩)] 46))
    have HB1 := hide ((by rw [hw1]; exact HBX.out : Blk w1 w.heap.size 29 #[.slice A n cap, .int .i64 b]).alloc (.cells #[.pointer (some ⟨T, rootOff s, none⟩)] 46))
    have c0 := (by rw [hw1]; exact HBX.out : Blk w1 w.heap.size 29 #[.slice A n cap, .int .i64 b]).cell 0
    have c1 := (by rw [hw1]; exact HBX.out : Blk w1 w.heap.size 29 #[.slice A n cap, .int .i64 b]).cell 1
    simp at c0 c1
    rw [← hw1]
    clear hw1
    go_wp2_with (go_at_call 18; refine (root_any T n s HS.out _).mono ?_; rintro e w2 ⟨rfl, rfl⟩)
    go_step3
    rename_i hK
    refine hK _ _ ?_
    refine HPASS.out _ _ ⟨0, T, rootOff s, _, _, _, _, _, _, _, _, _, _, _, _, _, _, _, _, _, _, _, _, _, _, _, _, _, _, _, _, _, _, _, rfl, Nat.zero_le _, HTW.out.ads.root s, HO1.out, HB1.out, ?_, by simp [HS1.out]⟩
    rw [show wayL ad s l (0 + 1) = [.pointer (some ⟨T, rootOff s, none⟩)] from by rw [← wayL_snoc]; show [] ++ [kidV (ad s [])] = _; rw [HTW.out.ads.root s]; rfl]
    exact HOW0.out
end
section
open Go.RowKit

/-- What it says stays, if none but blocks of T turn. -/
def Stab {β : Type} (T : List Nat) (J : β → World → Prop) : Prop := ∀ s A B, J s A → Only T A B → J s B
/-- Cells that are not the iterator's own are kept. -/
def keepC (Pv : List Nat) (A B : World) : Prop := ∀ (k : Nat) (o : Obj), k ∉ Pv → A.heap[k]? = some o → o.isCells = true → B.heap[k]? = some o
theorem keepC_only {S Pv : List Nat} {A B : World} (h : Only S A B) (hS : ∀ x ∈ S, x ∈ Pv) : keepC Pv A B := fun k _ hk hA _ => (h.block k (Array.getElem?_eq_some_iff.1 hA).1 (fun hx => hk (hS k hx))).trans hA
theorem keepC_put {Pv : List Nat} {A : World} {l : Nat} {R : Loop} (h : A.heap[l]? = some (.loop R)) (o' : Obj) : keepC Pv A (A.putObj l o') := fun k o _ hA hc => by
  refine (World.putObj_heap_other ?_).trans hA
  intro e
  subst e
  rw [h] at hA
  injection hA with hA
  subst hA
  cases hc
/-- What the caller says stays: of cells that are not the iterator's none turns; D, D + 1: the loop's two blocks. -/
def StabN {β : Type} (D : Nat) (Pv : List Nat) (J : β → World → Prop) : Prop := ∀ s A B, J s A → Only (D :: (D + 1) :: Pv) A B → keepC Pv A B → J s B
theorem only_put (W : World) (l : Nat) (o : Obj) : Only [l] W (W.putObj l o) :=
  ⟨rfl, rfl, rfl, by simp [World.putObj], fun k _ hk => World.putObj_heap_other (by intro e; subst e; simp at hk)⟩
/-- An iterator's contract: it gives the elements of S one by one; Sp: what may have come so far; Kp: what a round that goes on keeps; At: how its boxes stand when it is called. -/
def SeqP {α : Type} (n : Nat) (P : Program) (g : Nat) (lb : Array Value) (encs : α → Array Value) (Kp : World → World → Prop) (S Sp : List α → Prop) (Pv : List Nat) (At : World → Prop) : Prop :=
  ∀ (l : Nat) (J Jx : List α → World → Prop) (W : World), Stab Pv J → Stab Pv Jx →
    (∀ pre x W1, J pre W1 → Sp (pre ++ [x]) → YieldAt Fence.wide (n - 1) P l (encs x) W1 fun e W' => (e = .returned (.bool true) ∧ J (pre ++ [x]) W' ∧ Kp W1 W') ∨ (e = .returned (.bool false) ∧ Jx (pre ++ [x]) W')) →
    J [] W → At W → CallsIn Fence.wide n P g (#[.func (.yield l) #[] #[]] ++ lb) W fun e W' => (∃ v, e = .returned v) ∧ ((∃ xs, S xs ∧ J xs W') ∨ (∃ pre, Sp pre ∧ Jx pre W'))
/-- How a round may be left. D, D + 1: the loop's two blocks. -/
def roundOut {α : Type} (D : Nat) (Kp : World → World → Prop) (I : List α → World → Prop) (Ix : Code → List α → World → Prop) (xs : List α) (W : World) : Exit → Act → World → Prop
  | .normal, _, W' => (W'.heap[D]? = W.heap[D]? ∧ W'.heap[D + 1]? = W.heap[D + 1]?) ∧ Kp W W' ∧ I xs W'
  | .ret, _, W' => (W'.heap[D]? = W.heap[D]? ∧ W'.heap[D + 1]? = W.heap[D + 1]?) ∧ Ix .ret xs W'
  | .exit id, _, W' => (W'.heap[D]? = W.heap[D]? ∧ W'.heap[D + 1]? = W.heap[D + 1]?) ∧ Ix (.exit id) xs W'
  | .goto t, _, W' => (W'.heap[D]? = W.heap[D]? ∧ W'.heap[D + 1]? = W.heap[D + 1]?) ∧ Ix (.goto t) xs W'
  | .panic _, _, _ => False
  | .outgrown, _, _ => False

section
variable {P : Program}
theorem end_round {α : Type} {D : Nat} {R : Loop} {I : List α → World → Prop} {Ix : Code → List α → World → Prop} (W3 : World) (jump : Option Code) (h : W3.heap[D + 1]? = some (.loop R)) :
    (Instr.endRound (D + 1) jump).run P W3 = .ok (.bool jump.isNone) (W3.putObj (D + 1) (.loop { R with state := if jump.isNone then .ready else .done, pending := jump })) ∧
    (W3.putObj (D + 1) (.loop { R with state := if jump.isNone then .ready else .done, pending := jump })).heap[D + 1]? = some (.loop { R with state := if jump.isNone then .ready else .done, pending := jump }) :=
  ⟨run_endRound jump h, World.putObj_heap_same (Array.getElem?_eq_some_iff.1 h).1⟩
theorem range_priv {α : Type} {n : Nat} {g : Operand} {ps : Array Tmp} {assign body : Code} {Q : Exit → Act → World → Prop} {a : Act} {w : World} {gf : Nat} {lb : Array Value} (hg : a.eval g = .func (.func gf) #[] lb)
    (eg : ∀ args w, (callFunc gf args).run P w = .ok (.enter gf args) w) {encs : α → Array Value} {Kp : World → World → Prop} {S Sp : List α → Prop} {Pv : List Nat} {At : World → Prop}
    (hseq : SeqP (n - 1) P gf lb encs Kp S Sp Pv At) (hPv : ∀ k ∈ Pv, k < w.heap.size) (hAt : ∀ W, Only [] w W → At W) (hps : ∀ x, (encs x).size = ps.size)
    (hKt : ∀ {A B C : World}, Kp A B → Kp B C → Kp A C) (hKb : ∀ (W : World) (l : Nat) (o : Obj), w.heap.size ≤ l → Kp W (W.putObj l o))
    (I : List α → World → Prop) (Ix : Code → List α → World → Prop) (hI : StabN w.heap.size Pv I) (hIx : ∀ c, StabN w.heap.size Pv (Ix c)) (h0 : I [] w) (a₁ : α → Act)
    (hassign : ∀ (x : α) (W : World) (K : Act → World → Prop), K (a₁ x) W →
      assign.wpIn (Fence.wide.inRound (w.heap.size + 1)) (n - 1 - 1) P (Exit.then K (fun _ _ _ => False)) { tmps := (ps.zip (encs x)).foldl (fun t (p, v) => t.setIfInBounds p v) a.tmps, defers := [] } W)
    (hbody : ∀ (pre : List α) (x : α) (W : World), I pre W → Sp (pre ++ [x]) → W.heap[w.heap.size]? = some (.deferred (some [])) → (∃ R, W.heap[w.heap.size + 1]? = some (.loop R)) → body.wpIn (Fence.wide.inRound (w.heap.size + 1)) (n - 1 - 1) P (roundOut w.heap.size Kp I Ix (pre ++ [x]) W) (a₁ x) W)
    (hdone : ∀ (xs : List α) (W : World), S xs → I xs W → W.heap[w.heap.size]? = some (.deferred (some [])) → Q .normal { a with defers := { target := .collected w.heap.size, args := #[] } :: a.defers } W)
    (hstop : ∀ (c : Code) (pre : List α) (W : World), Sp pre → Ix c pre W → W.heap[w.heap.size]? = some (.deferred (some [])) → c.wpIn Fence.wide n P Q { a with defers := { target := .collected w.heap.size, args := #[] } :: a.defers } W) :
    (Code.rangeFunc g ps assign body).wpIn Fence.wide n P Q a w := by
  refine wpIn_rangeFunc fun fn _ => ?_
  obtain ⟨D, hD⟩ : ∃ D, D = w.heap.size := ⟨_, rfl⟩
  obtain ⟨R, hR⟩ : ∃ R : Loop, R = { state := .ready, pending := none, fn, tmps := a.tmps, params := ps, assign, body, defers := D } := ⟨_, rfl⟩
  have hRs : R.state = .ready := by rw [hR]
  have hRf : R.fn = fn ∧ R.tmps = a.tmps ∧ R.params = ps ∧ R.assign = assign ∧ R.body = body := by rw [hR]; exact ⟨rfl, rfl, rfl, rfl, rfl⟩
  obtain ⟨W0, hW0⟩ : ∃ W0, W0 = (w.alloc (.deferred (some []))).alloc (.loop R) := ⟨_, rfl⟩
  have hl0 : W0.heap[D + 1]? = some (.loop R) := by
    have := World.alloc_heap_new (w.alloc (.deferred (some []))) (.loop R)
    rw [World.size_alloc] at this
    rw [hW0, hD]; exact this
  have hd0 : W0.heap[D]? = some (.deferred (some [])) := by
    rw [hW0, hD]
    exact (Below.heap_alloc _ _ _ (by simp)).trans (World.alloc_heap_new w _)
  have ho0 : Only [] w W0 := by rw [hW0]; exact ((Only.refl [] w).alloc _).alloc _
  rw [← hD] at hI hIx hbody hdone hstop hKb hPv hassign
  have hT : ∀ {A B : World}, Only Pv A B → Only (D :: (D + 1) :: Pv) A B := fun h => h.mono (fun x hx => .inl (by simp [hx]))
  have hT0 : ∀ {A B : World}, Only [] A B → Only (D :: (D + 1) :: Pv) A B := fun h => h.mono (by simp)
  have hT1 : ∀ {A B : World}, Only [D + 1] A B → Only (D :: (D + 1) :: Pv) A B := fun h => h.mono (fun x hx => .inl (by simp at hx; simp [hx]))
  have hnD : D ∉ Pv ∧ D + 1 ∉ Pv := ⟨fun h => absurd (hPv _ h) (Nat.lt_irrefl _), fun h => absurd (hPv _ h) (by omega)⟩
  refine ⟨D + 1, [{ target := .collected D, args := #[] }], W0, { target := .fn (.func gf) lb, args := #[.func (.yield (D + 1)) #[] #[]] }, W0, gf, #[.func (.yield (D + 1)) #[] #[]] ++ lb, W0, ?_, ?_, fun _ _ => trivial, ?_, (fun h => absurd h (by decide)), ?_⟩
  · rw [hW0, hR, hD]; exact run_enterLoop_outer _ _ _ _ _
  · simp only [resolve, hg]
    simp [go_sem]
  · simp [invoke, go_sem, eg]
  · refine (hseq (D + 1) (fun pre W => I pre W ∧ W.heap[D + 1]? = some (.loop R) ∧ W.heap[D]? = some (.deferred (some [])))
      (fun pre W => ∃ c, Ix c pre W ∧ W.heap[D + 1]? = some (.loop { R with state := .done, pending := some c }) ∧ W.heap[D]? = some (.deferred (some []))) W0 ?_ ?_ ?_ ⟨hI _ _ _ h0 (hT0 ho0) (keepC_only ho0 (by simp)), hl0, hd0⟩ (hAt _ ho0)).mono ?_
    · intro s A B hs ho
      exact ⟨hI _ _ _ hs.1 (hT ho) (keepC_only ho (fun _ h => h)), (ho.block _ (Array.getElem?_eq_some_iff.1 hs.2.1).1 hnD.2).trans hs.2.1, (ho.block _ (Array.getElem?_eq_some_iff.1 hs.2.2).1 hnD.1).trans hs.2.2⟩
    · intro s A B hs ho
      obtain ⟨c, h1, h2, h3⟩ := hs
      exact ⟨c, hIx c _ _ _ h1 (hT ho) (keepC_only ho (fun _ h => h)), (ho.block _ (Array.getElem?_eq_some_iff.1 h2).1 hnD.2).trans h2, (ho.block _ (Array.getElem?_eq_some_iff.1 h3).1 hnD.1).trans h3⟩
    · rintro pre x W ⟨hi, hl, hd⟩ hsp
      have hy := run_yield (P := P) (args := encs x) hl (by rw [hRf.2.2.1]; exact hps x)
      rw [hRf.1, hRf.2.1, hRf.2.2.1, hRf.2.2.2.1, hRf.2.2.2.2] at hy
      refine ⟨fn, _, assign, body, hy, roundIn_of_wpIn trivial (hassign x W _ ⟨_, run_beginRound hl hRs, ?_⟩)⟩
      have hlt : D + 1 < W.heap.size := (Array.getElem?_eq_some_iff.1 hl).1
      obtain ⟨W1, hW1⟩ : ∃ W1, W1 = W.putObj (D + 1) (.loop { R with state := .busy }) := ⟨_, rfl⟩
      have hl1 : W1.heap[D + 1]? = some (.loop { R with state := .busy }) := by rw [hW1]; exact World.putObj_heap_same hlt
      have ho1 : Only [D + 1] W W1 := by rw [hW1]; exact only_put _ _ _
      have hd1 : W1.heap[D]? = some (.deferred (some [])) := (ho1.block D (by omega) (by simp)).trans hd
      have hk1 : Kp W W1 := by rw [hW1]; exact hKb _ _ _ (by omega)
      rw [← hW1]
      refine wpIn_mono (hbody pre x W1 (hI _ _ _ hi (hT1 ho1) (by rw [hW1]; exact keepC_put hl _)) hsp hd1 ⟨_, hl1⟩) ?_
      have back : ∀ W3 : World, (W3.heap[D]? = W1.heap[D]? ∧ W3.heap[D + 1]? = W1.heap[D + 1]?) → W3.heap[D]? = some (.deferred (some [])) ∧ W3.heap[D + 1]? = some (.loop { R with state := .busy }) := fun W3 h => ⟨h.1.trans hd1, h.2.trans hl1⟩
      have hr : ∀ (j : Option Code), ({ { R with state := .busy } with state := if j.isNone then .ready else .done, pending := j } : Loop) = { R with state := if j.isNone then .ready else .done, pending := j } := fun j => rfl
      rintro e a3 W3 hp
      cases e with
      | normal =>
        obtain ⟨hb, hk, hi3⟩ := hp
        obtain ⟨hd3, hl3⟩ := back W3 hb
        obtain ⟨h1, h2⟩ := end_round (P := P) (I := I) (Ix := Ix) W3 none hl3
        refine ⟨_, _, h1, .inl ⟨rfl, ⟨hI _ _ _ hi3 (hT1 (only_put _ _ _)) (keepC_put hl3 _), ?_, ((only_put W3 (D + 1) _).block D (Array.getElem?_eq_some_iff.1 hd3).1 (by simp)).trans hd3⟩, hKt (hKt hk1 hk) (hKb _ _ _ (by omega))⟩⟩
        rw [h2, hR]
        rfl
      | ret =>
        obtain ⟨hb, hi3⟩ := hp
        obtain ⟨hd3, hl3⟩ := back W3 hb
        obtain ⟨h1, h2⟩ := end_round (P := P) (I := I) (Ix := Ix) W3 (some .ret) hl3
        exact ⟨_, _, h1, .inr ⟨rfl, .ret, hIx _ _ _ _ hi3 (hT1 (only_put _ _ _)) (keepC_put hl3 _), h2, ((only_put W3 (D + 1) _).block D (Array.getElem?_eq_some_iff.1 hd3).1 (by simp)).trans hd3⟩⟩
      | exit id =>
        obtain ⟨hb, hi3⟩ := hp
        obtain ⟨hd3, hl3⟩ := back W3 hb
        obtain ⟨h1, h2⟩ := end_round (P := P) (I := I) (Ix := Ix) W3 (some (.exit id)) hl3
        exact ⟨_, _, h1, .inr ⟨rfl, .exit id, hIx _ _ _ _ hi3 (hT1 (only_put _ _ _)) (keepC_put hl3 _), h2, ((only_put W3 (D + 1) _).block D (Array.getElem?_eq_some_iff.1 hd3).1 (by simp)).trans hd3⟩⟩
      | goto t =>
        obtain ⟨hb, hi3⟩ := hp
        obtain ⟨hd3, hl3⟩ := back W3 hb
        obtain ⟨h1, h2⟩ := end_round (P := P) (I := I) (Ix := Ix) W3 (some (.goto t)) hl3
        exact ⟨_, _, h1, .inr ⟨rfl, .goto t, hIx _ _ _ _ hi3 (hT1 (only_put _ _ _)) (keepC_put hl3 _), h2, ((only_put W3 (D + 1) _).block D (Array.getElem?_eq_some_iff.1 hd3).1 (by simp)).trans hd3⟩⟩
      | panic ch => exact hp.elim
      | outgrown => exact hp.elim
    · rintro e W2 ⟨⟨v, rfl⟩, (⟨xs, hS, hi, hl, hd⟩ | ⟨pre, hSp, c, hi, hl, hd⟩)⟩
      · have h := run_endLoop (P := P) hl (by rw [hRs]; simp)
        rw [show R.pending = none by rw [hR]] at h
        exact ⟨none, _, h, hdone xs _ hS (hI _ _ _ hi (hT1 (only_put _ _ _)) (keepC_put hl _)) (((only_put W2 (D + 1) _).block D (Array.getElem?_eq_some_iff.1 hd).1 (by simp)).trans hd)⟩
      · exact ⟨some c, _, run_endLoop (P := P) hl (by simp), hstop c pre _ hSp (hIx c _ _ _ hi (hT1 (only_put _ _ _)) (keepC_put hl _)) (((only_put W2 (D + 1) _).block D (Array.getElem?_eq_some_iff.1 hd).1 (by simp)).trans hd)⟩
end
end
section
open Go.RowKit Go.Deep Go.Shelf

theorem TrIs.cut {w : World} {T : Nat} {bl : List Nat} {ad : Ads} {th : ThF} {ow : OwF} {s : Bool} {π : List Bool} {g o : Nat} (h : TrIs w T bl ad th ow) (ha : ad s π = some (g, o)) (b : Bool)
    (hth : th s (b :: π) = false) (how : ow s (b :: π) = 0) (hk : ∀ c, ad s (c :: b :: π) = none) :
    TrIs (w.setCell ⟨g, o + (2 + b.toNat), none⟩ (.pointer none)) T bl (upd2 ad s (b :: π) none) th ow := by
  have hb2 : 2 + b.toNat < 4 := by cases b <;> decide
  have hs := h.cells.set h.ads (fun _ _ => rfl) ha (2 + b.toNat) hb2 (.pointer none)
  have hsub : ∀ s' π' p, upd2 ad s (b :: π) none s' π' = some p → ad s' π' = some p := by
    intro s' π' p hp
    by_cases hc : s' = s ∧ π' = b :: π
    · obtain ⟨rfl, rfl⟩ := hc
      rw [upd2_same] at hp
      cases hp
    · rwa [upd2_ne _ _ hc] at hp
  refine ⟨⟨fun s' => ?_, fun s' c π' hsome => ?_, fun s' π' g' o' ha' => h.ads.mem _ _ _ _ (hsub _ _ _ ha'), fun s1 π1 s2 π2 g' o1 o2 h1 h2 => h.ads.inj _ _ _ _ _ _ _ (hsub _ _ _ h1) (hsub _ _ _ h2)⟩, fun k hk => by simpa [World.setCell] using h.lt k hk, ?_, fun s' π' hn' => ?_⟩
  · rw [upd2_ne _ _ (by rintro ⟨_, h⟩; cases h)]
    exact h.ads.root s'
  · obtain ⟨p, hp⟩ := Option.isSome_iff_exists.1 hsome
    have h1 := h.ads.up s' c π' (by rw [hsub _ _ _ hp]; rfl)
    rw [upd2_ne]
    · exact h1
    · rintro ⟨rfl, rfl⟩
      have := hsub _ _ _ hp
      rw [hk c] at this
      cases this
  · intro s' π' g' o' ha'
    obtain ⟨h1, h2, h3⟩ := hs s' π' g' o' (hsub _ _ _ ha')
    refine ⟨h1, fun j u hu => h2 j u ?_, h3⟩
    rw [← hu]
    congr 1
    dsimp only
    by_cases hc2 : s' = s ∧ π' = π
    · obtain ⟨rfl, rfl⟩ := hc2
      rw [upd2_same]
      cases b with
      | false => rw [upd2_same, upd2_ne _ _ (by rintro ⟨_, h⟩; simp at h)]; rfl
      | true => rw [upd2_same, upd2_ne _ _ (by rintro ⟨_, h⟩; simp at h)]; rfl
    · rw [upd2_ne _ _ hc2, upd2_ne _ _ (by rintro ⟨rfl, h⟩; exact hc2 ⟨rfl, by simp at h; exact h.2⟩), upd2_ne _ _ (by rintro ⟨rfl, h⟩; exact hc2 ⟨rfl, by simp at h; exact h.2⟩)]
  · by_cases hc : s' = s ∧ π' = b :: π
    · obtain ⟨rfl, rfl⟩ := hc
      exact ⟨hth, how⟩
    · rw [upd2_ne _ _ hc] at hn'
      exact h.bare s' π' hn'

theorem cell_heap {w w' : World} {a : Addr} (h : w'.heap[a.block]? = w.heap[a.block]?) : w'.cell? a = w.cell? a := by
  unfold World.cell?
  rw [h]
def downL (n k : Nat) : List Nat := (List.range k).map fun j => n - 1 - j
theorem downL_snoc (n k : Nat) : downL n k ++ [n - 1 - k] = downL n (k + 1) := by unfold downL; rw [List.range_succ, List.map_append]; rfl
theorem downL_len (n k : Nat) : (downL n k).length = k := by unfold downL; rw [List.length_map, List.length_range]
def backE (vs : List Value) (k : Nat) : Array Value := #[.int .i64 (k : Int), vs.getD k undef]
def RowAt (W : World) (g o n : Nat) (vs : List Value) : Prop := g < W.heap.size ∧ ∀ i, i < n → W.cell? ⟨g, o + i, none⟩ = some (vs.getD i undef)
def keepTwo (b g : Nat) (W W' : World) : Prop := (∀ o, W.heap[b]? = some o → W'.heap[b]? = some o) ∧ ∀ o, W.heap[g]? = some o → W'.heap[g]? = some o
theorem RowAt.kept {b g o n : Nat} {vs : List Value} {W W' : World} (h : RowAt W g o n vs) (hk : keepTwo b g W W') : RowAt W' g o n vs := by
  have e := hk.2 _ (Array.getElem?_eq_getElem h.1)
  refine ⟨(Array.getElem?_eq_some_iff.1 e).1, fun i hi => ?_⟩
  rw [cell_heap (w := W) (by rw [e, Array.getElem?_eq_getElem h.1])]
  exact h.2 i hi
set_option maxRecDepth 100000 in
set_option maxHeartbeats 1600000 in
theorem backward_seq (m n b g o cap : Nat) (vs : List Value) (hn : n ≤ 1000) (hc : n ≤ cap) : SeqP m Try.prog 31 #[.pointer (some ⟨b, 0, none⟩)] (backE vs) (keepTwo b g) (fun xs => xs = downL n n) (fun pre => ∃ k, k ≤ n ∧ pre = downL n k) []
    (fun W => Blk W b 59 #[.slice (some ⟨g, o, none⟩) n cap] ∧ RowAt W g o n vs) := by
  intro l J Jx W hJ hJx hY h0 hA
  have HY := hide hY
  have HA := hide hA.1
  have HR := hide hA.2
  have k0 := hA.1.cell 0
  simp at k0
  clear hY hA
  refine callsIn_of_wp Try.func31 rfl trivial ?_ rfl
  simp only [Try.ntmps31, List.size_toArray, List.length_cons, List.length_nil, Nat.reduceAdd, Nat.reduceSub, Array.replicate_succ, Array.replicate_zero, List.push_toArray, List.append_toArray, List.nil_append, List.cons_append]
  gi_wp2
  clear k0
  gi_loopw [3] (fun i wr => ∃ k : Nat, k ≤ n ∧ i = .int .i64 ((n : Int) - 1 - (k : Int)) ∧ J (downL n k) wr ∧ Hid (Blk wr b 59 #[.slice (some ⟨g, o, none⟩) n cap]) ∧ Hid (RowAt wr g o n vs)) (fun i _ => (intOf i + 1).toNat)
  case atStart => exact ⟨0, by omega, by go_num, h0, HA, HR⟩
  case round =>
    obtain ⟨k, hk, rfl, hj, hb, hrow⟩ := hrel
    have k0 := hb.out.cell 0
    simp at k0
    by_cases h8 : k < n
    · have hge : (0 : Int) ≤ (n : Int) - 1 - (k : Int) := by omega
      obtain ⟨q, hq⟩ : ∃ q, q = n - 1 - k := ⟨_, rfl⟩
      have hqi : (n : Int) - 1 - (k : Int) = (q : Int) := by omega
      have hqn : q < n := by omega
      rw [hqi] at hge ⊢
      have hcell := hrow.out.2 q hqn
      have hnext := downL_snoc n k
      rw [← hq] at hnext
      obtain ⟨fn, tmps, assign, body, hy, hR⟩ := HY.out (downL n k) q wr hj ⟨k + 1, by omega, hnext⟩
      rw [hnext] at hR
      have HQ := hide hqi
      unfold backE at hy
      obtain ⟨u, hu⟩ : ∃ u, u = vs.getD q undef := ⟨_, rfl⟩
      rw [← hu] at hcell hy
      clear hq hqi hnext hu
      gi_wp2
      refine ⟨(fun h => absurd h (by decide)), hR.mono ?_⟩
      rintro e W3 (⟨rfl, hJ3, hk3⟩ | ⟨rfl, hJx3⟩)
      · have hb3 := hide (show Blk W3 b 59 #[.slice (some ⟨g, o, none⟩) n cap] from hk3.1 _ hb.out)
        have hr3 := hide (hrow.out.kept hk3)
        gi_wp2
        go_roundw
        case rel => exact ⟨k + 1, by omega, by rw [← HQ.out]; go_num, hJ3, hb3, hr3⟩
        case measure => have := HQ.out; simp [intOf]
      · gi_wp2
        refine bodyPost_ret (results_none rfl _ _ _) rfl ?_
        exact ⟨⟨_, rfl⟩, .inr ⟨downL n (k + 1), ⟨k + 1, by omega, rfl⟩, hJx3⟩⟩
    · obtain rfl : k = n := by omega
      have hge : ¬ (0 : Int) ≤ (k : Int) - 1 - (k : Int) := by omega
      gi_wp2
      go_end0
      exact ⟨⟨_, rfl⟩, .inl hj⟩
end
section
open Go.RowKit

section
variable {P : Program} {ops : Array Oper} {Q : Exit → Act → World → Prop} {md : Region.Mode} {n l : Nat}
theorem rows_round {row : String} {args : Array Value} {w : World} {R : Value → World → Prop} (h : Rows P row args w R) : RowsIn (Fence.wide.inRound l) n P row args w R :=
  fun c cs _ => let ⟨v, w', r, s⟩ := h c cs; ⟨v, w', r, stepsIn_wide.2 s⟩
theorem oper_round {o : Oper} {a : Act} {w : World} {K : Act → World → Prop} (hd : ∀ c, o.op ≠ .defer c) (h : o.wp P a w K Q) : o.wpIn (Fence.wide.inRound l) n P a w K Q := by
  refine ⟨fun _ _ => trivial, ?_⟩
  unfold Oper.wp at h
  rw [Fence.inRound_round, Oper.semAt_some l _ _ hd]
  generalize (execOp a.eval o).run P w = r at *
  cases r with
  | ok x w' =>
    cases x <;> simp only [Oper.upon] at h <;> simp only [Oper.uponIn]
    case enter => exact ⟨fun h => (by cases h), CallsIn.inRound _ (callsIn_wide.2 h)⟩
    case row => exact ⟨fun h => (by cases h), rows_round h⟩
    all_goals exact h
  | halt x w' => cases x <;> simp only [Oper.upon] at h <;> simp only [Oper.uponIn] <;> exact h
theorem op_round {i : Nat} {a : Act} {w : World} {K : Act → World → Prop} (hd : ∀ (j : Nat) (o : Oper), ops[j]? = some o → ∀ c, o.op ≠ .defer c) (hQ : ¬ LetsOut Q) (h : wpOp P ops Q i K a w) : wpOpIn (Fence.wide.inRound l) n P ops Q i K a w := by
  unfold wpOp at h
  unfold wpOpIn
  split
  · rename_i e; simp only [e] at h; exact h
  · rename_i o e
    simp only [e] at h
    split
    · rename_i hw
      simp only [hw, if_true] at h
      exact oper_round (hd i o e) (h.resolve_right fun h => hQ h.2)
    · rename_i hw
      simp only [hw] at h
      exact ⟨fun _ _ => trivial, h⟩
theorem any_round (hd : ∀ (j : Nat) (o : Oper), ops[j]? = some o → ∀ c, o.op ≠ .defer c) (hQ : ¬ LetsOut Q) : ∀ (fuel : Nat) (listed : Array Bool) (a : Act) (w : World), wpAny P md ops Q fuel listed a w → wpAnyIn (Fence.wide.inRound l) n P md ops Q fuel listed a w
  | 0, _, _, _, h => h
  | fuel + 1, _, _, _, h => ⟨h.1, fun i hi => wpOpIn_mono (fun a w h => any_round hd hQ fuel _ a w h) (op_round hd hQ (h.2 i hi))⟩
/-- The beginning of a held walk inside a round. -/
theorem wpIn_region_held {S : World → Prop} {id : Nat} {a : Act} {w : World} (hm : P.follows .mixedOrders = true) (hd : (ops.toList.all fun o => match o.op with | .defer _ => false | _ => true) = true) (hQ : ¬ LetsOut Q) (hS : S w.drew)
    (h : S w.drew → wpAnyH P .any ops Q S ops.size (Array.replicate ops.size false) a w.drew) : (Code.region id ops true).wpIn (Fence.wide.inRound l) n P Q a w := by
  refine wpIn_region_any hm (any_round (fun j o ho c hc => ?_) hQ _ _ _ _ (wpAny_of_held _ _ _ _ (h hS)))
  have hj := List.all_eq_true.1 hd o (Array.mem_toList_iff.2 (Array.mem_of_getElem? ho))
  rw [hc] at hj
  cases hj
end
end
end Go.Proofs.Ytokaobilphfdoaa

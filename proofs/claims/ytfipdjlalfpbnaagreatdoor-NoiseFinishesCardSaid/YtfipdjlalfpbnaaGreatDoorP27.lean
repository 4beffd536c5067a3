/-
  Walks and plain words (texts Tk, No2, Wh). No condition beyond those that each theorem states.
-/
import Derived.OrdersHeld
import Derived.Deep.RegionHeld3
import Derived.StillTailTactics
import Derived.Test.YtfipdjlalfpbnaaGreatDoorP20
import Derived.Test.YtfipdjlalfpbnaaGreatDoorP26
namespace Go.Proofs.YtfipdjlalfpbnaaGreatDoor
section
open Go.RowKit Go.Deep
theorem zsa {α : Type} {xs : List α} {i : Nat} (h : i < xs.toArray.size) : xs.toArray[i] = xs[i]'(by simpa using h) := List.getElem_toArray h
theorem zsb {α : Type} (a : α) (l2 : List α) (i : Nat) (h : i + 1 < (a :: l2).length) : (a :: l2)[i + 1] = l2[i]'(by simpa using h) := List.getElem_cons_succ a l2 i h
theorem zsc {α : Type} (a : α) (l2 : List α) (h : 0 < (a :: l2).length) : (a :: l2)[0] = a := List.getElem_cons_zero a l2 h
theorem zsd {α : Type} (l : List α) (i : Nat) (a : α) : l.toArray.setIfInBounds i a = (l.set i a).toArray := List.setIfInBounds_toArray l i a
theorem zse {α : Type} (a b : α) (l : List α) : (a :: l).set 0 b = b :: l := List.set_cons_zero
theorem zsf {α : Type} (a b : α) (l : List α) (n : Nat) : (a :: l).set (n + 1) b = a :: l.set n b := List.set_cons_succ
section
variable {P : Program} {ops : Array Oper} {Q : Exit → Act → World → Prop} {md : Region.Mode} {S : World → Prop}
theorem tk (i : Nat) {oi : Oper} {v : Value} {fuel : Nat} {listed l2 : Array Bool} {a a2 : Act} {w : World} (h : wpAnyH P md ops Q S fuel l2 a2 w) (hi : ops[i]? = some oi := by rfl)
    (hs : Region.noSelect ops = true := by kernel_rfl) (hf : Region.free md ops listed i = true := by kernel_rfl) (hr : (Region.ready md ops listed).contains i = true := by kernel_rfl)
    (hQ : ∀ c a w, Q (.panic c) (a.put oi.dst v) w → Q (.panic c) a w := by exact fun _ _ _ h => h) (hw : Region.wanted oi (yielded ops a.tmps) = true := by rfl)
    (hy : ∀ w, S w → (execOp a.eval oi).run P w = .ok (.value v) w := by (intro w hSw; (try dsimp only at hSw); go_simp; try with_reducible rfl)) (hS : S w := by assumption)
    (hl : listed.setIfInBounds i true = l2 := by (try simp only [List.setIfInBounds_toArray, List.set_cons_zero, List.set_cons_succ]) <;> rfl)
    (ha : a.put oi.dst v = a2 := by (try simp only [List.getElem_toArray, List.getElem_cons_succ, List.getElem_cons_zero, Act.put, List.setIfInBounds_toArray, List.set_cons_zero, List.set_cons_succ]) <;> rfl) :
    wpAnyH P md ops Q S (fuel + 1) listed a w := by
  subst hl ha
  exact wpAnyH_take hi hs hf hr hQ (.inl ⟨hw, hy⟩) hS h
end
theorem cells2 {w : World} {g : Nat} {t : TypeId} {a0 a1 : Value} (h : Blk w g t #[a0, a1]) : w.cell? ⟨g, 0, none⟩ = some a0 ∧ w.cell? ⟨g, 1, none⟩ = some a1 :=
  ⟨h.cell 0, h.cell 1⟩
theorem cells3 {w : World} {g : Nat} {t : TypeId} {a0 a1 a2 : Value} (h : Blk w g t #[a0, a1, a2]) : w.cell? ⟨g, 0, none⟩ = some a0 ∧ w.cell? ⟨g, 1, none⟩ = some a1 ∧ w.cell? ⟨g, 2, none⟩ = some a2 :=
  ⟨h.cell 0, h.cell 1, h.cell 2⟩
theorem cells4 {w : World} {g : Nat} {t : TypeId} {a0 a1 a2 a3 : Value} (h : Blk w g t #[a0, a1, a2, a3]) : w.cell? ⟨g, 0, none⟩ = some a0 ∧ w.cell? ⟨g, 1, none⟩ = some a1 ∧ w.cell? ⟨g, 2, none⟩ = some a2 ∧ w.cell? ⟨g, 3, none⟩ = some a3 :=
  ⟨h.cell 0, h.cell 1, h.cell 2, h.cell 3⟩
theorem cells6 {w : World} {g : Nat} {t : TypeId} {a0 a1 a2 a3 a4 a5 : Value} (h : Blk w g t #[a0, a1, a2, a3, a4, a5]) : w.cell? ⟨g, 0, none⟩ = some a0 ∧ w.cell? ⟨g, 1, none⟩ = some a1 ∧ w.cell? ⟨g, 2, none⟩ = some a2 ∧ w.cell? ⟨g, 3, none⟩ = some a3 ∧ w.cell? ⟨g, 4, none⟩ = some a4 ∧ w.cell? ⟨g, 5, none⟩ = some a5 :=
  ⟨h.cell 0, h.cell 1, h.cell 2, h.cell 3, h.cell 4, h.cell 5⟩
theorem cells13 {w : World} {g : Nat} {t : TypeId} {a0 a1 a2 a3 a4 a5 a6 a7 a8 a9 a10 a11 a12 : Value} (h : Blk w g t #[a0, a1, a2, a3, a4, a5, a6, a7, a8, a9, a10, a11, a12]) : w.cell? ⟨g, 0, none⟩ = some a0 ∧ w.cell? ⟨g, 1, none⟩ = some a1 ∧ w.cell? ⟨g, 2, none⟩ = some a2 ∧ w.cell? ⟨g, 3, none⟩ = some a3 ∧ w.cell? ⟨g, 4, none⟩ = some a4 ∧ w.cell? ⟨g, 5, none⟩ = some a5 ∧ w.cell? ⟨g, 6, none⟩ = some a6 ∧ w.cell? ⟨g, 7, none⟩ = some a7 ∧ w.cell? ⟨g, 8, none⟩ = some a8 ∧ w.cell? ⟨g, 9, none⟩ = some a9 ∧ w.cell? ⟨g, 10, none⟩ = some a10 ∧ w.cell? ⟨g, 11, none⟩ = some a11 ∧ w.cell? ⟨g, 12, none⟩ = some a12 :=
  ⟨h.cell 0, h.cell 1, h.cell 2, h.cell 3, h.cell 4, h.cell 5, h.cell 6, h.cell 7, h.cell 8, h.cell 9, h.cell 10, h.cell 11, h.cell 12⟩
theorem hon {w w' : World} {g : Nat} {t : TypeId} {cs : Array Value} (h : Hid (Blk w g t cs)) (ho : Only [] w w') : Hid (Blk w' g t cs) := hide (h.out.only ho (by simp))
theorem htr {S : List Nat} {a w w' : World} (h : Hid (Only S a w)) (ho : Only S w w') : Hid (Only S a w') := hide (h.out.trans ho)
end
section
open Go.RowKit Go.Deep

theorem set4 {w : World} {R : Nat} {t : TypeId} {a0 a1 a2 a3 : Value} (h : Blk w R t #[a0, a1, a2, a3]) (v0 v1 v2 v3 : Value) : Blk ((((w.setCell ⟨R, 0, none⟩ v0).setCell ⟨R, 1, none⟩ v1).setCell ⟨R, 2, none⟩ v2).setCell ⟨R, 3, none⟩ v3) R t #[v0, v1, v2, v3] := by
  have h2 := ((((h.set_ 0 v0).set_ 1 v1).set_ 2 v2).set_ 3 v3)
  simp only [List.setIfInBounds_toArray, List.set_cons_zero, List.set_cons_succ] at h2
  exact h2
theorem only4 {S : List Nat} {a w : World} {R : Nat} (h : Only S a w) (hR : R ∈ S ∨ a.heap.size ≤ R) (v0 v1 v2 v3 : Value) : Only S a ((((w.setCell ⟨R, 0, none⟩ v0).setCell ⟨R, 1, none⟩ v1).setCell ⟨R, 2, none⟩ v2).setCell ⟨R, 3, none⟩ v3) :=
  ((((h.setCell (p := ⟨R, 0, none⟩) hR v0).setCell (p := ⟨R, 1, none⟩) hR v1).setCell (p := ⟨R, 2, none⟩) hR v2).setCell (p := ⟨R, 3, none⟩) hR v3)
theorem nfar4 {w : World} {g R : Nat} {t : TypeId} {cs : Array Value} (h : Blk w g t cs) (hR : g ≠ R) (v0 v1 v2 v3 : Value) : Blk ((((w.setCell ⟨R, 0, none⟩ v0).setCell ⟨R, 1, none⟩ v1).setCell ⟨R, 2, none⟩ v2).setCell ⟨R, 3, none⟩ v3) g t cs :=
  ((((h.far (p := ⟨R, 0, none⟩) hR v0).far (p := ⟨R, 1, none⟩) hR v1).far (p := ⟨R, 2, none⟩) hR v2).far (p := ⟨R, 3, none⟩) hR v3)
theorem nfar13 {w : World} {g R : Nat} {t : TypeId} {cs : Array Value} (h : Blk w g t cs) (hR : g ≠ R) (v0 v1 v2 v3 v4 v5 v6 v7 v8 v9 v10 v11 v12 : Value) : Blk (((((((((((((w.setCell ⟨R, 0, none⟩ v0).setCell ⟨R, 1, none⟩ v1).setCell ⟨R, 2, none⟩ v2).setCell ⟨R, 3, none⟩ v3).setCell ⟨R, 4, none⟩ v4).setCell ⟨R, 5, none⟩ v5).setCell ⟨R, 6, none⟩ v6).setCell ⟨R, 7, none⟩ v7).setCell ⟨R, 8, none⟩ v8).setCell ⟨R, 9, none⟩ v9).setCell ⟨R, 10, none⟩ v10).setCell ⟨R, 11, none⟩ v11).setCell ⟨R, 12, none⟩ v12) g t cs :=
  (((((((((((((h.far (p := ⟨R, 0, none⟩) hR v0).far (p := ⟨R, 1, none⟩) hR v1).far (p := ⟨R, 2, none⟩) hR v2).far (p := ⟨R, 3, none⟩) hR v3).far (p := ⟨R, 4, none⟩) hR v4).far (p := ⟨R, 5, none⟩) hR v5).far (p := ⟨R, 6, none⟩) hR v6).far (p := ⟨R, 7, none⟩) hR v7).far (p := ⟨R, 8, none⟩) hR v8).far (p := ⟨R, 9, none⟩) hR v9).far (p := ⟨R, 10, none⟩) hR v10).far (p := ⟨R, 11, none⟩) hR v11).far (p := ⟨R, 12, none⟩) hR v12)
theorem results_two_cells {P : Program} {fn : Func} {p q r : Tmp} {ty ty2 : TypeId} (h : fn.results = #[.cell p ty, .cell q ty2, .tmp r]) (tmps : Array Value) (w : World) (g g2 : Nat) (t t2 : TypeId) (cs cs2 : Array Value) (fr fr2 : Nat × Nat) (d d2 : TypeDesc)
    (hp : tmps.getD p undef = .pointer (some ⟨g, 0, none⟩)) (hq : tmps.getD q undef = .pointer (some ⟨g2, 0, none⟩)) (hg : w.heap[g]? = some (.cells cs t fr)) (hg2 : w.heap[g2]? = some (.cells cs2 t2 fr2))
    (hu : P.underlying ty = some d) (hd : (match d with | .struct _ | .array _ _ => true | _ => false) = true) (hi : (P.info? ty).map (·.size) = some cs.size)
    (hu2 : P.underlying ty2 = some d2) (hd2 : (match d2 with | .struct _ | .array _ _ => true | _ => false) = true) (hi2 : (P.info? ty2).map (·.size) = some cs2.size) :
    (results fn tmps).run P w = .ok (.tuple #[.agg cs, .agg cs2, tmps.getD r undef]) w := by
  have hp' : tmps[p]?.getD undef = .pointer (some ⟨g, 0, none⟩) := by simpa using hp
  have hq' : tmps[q]?.getD undef = .pointer (some ⟨g2, 0, none⟩) := by simpa using hq
  simp [results, h, hp', hq', asAddr, run_loadVar_row w g t ty cs fr d hg hu hd hi, run_loadVar_row w g2 t2 ty2 cs2 fr2 d2 hg2 hu2 hd2 hi2]
/-- What Begin makes. -/
structure Bgn where
  eph : ByteArray
  sA : ByteArray
  sB : ByteArray
  c : ByteArray
  h : ByteArray
noncomputable def begV (s e tt : ByteArray) (n : Nat) : Bgn :=
  let eph := pubT e
  let cA := begC eph
  let hA := begH tt eph
  let uA := agreeT e tt
  let sA := sealN (kdfT 2 cA uA) (pubT s) hA
  let cB := kdfT 1 cA uA
  let hB := hashT hA sA
  let uB := agreeT s tt
  let sB := sealN (kdfT 2 cB uB) (numT n) hB
  ⟨eph, sA, sB, kdfT 1 cB uB, hashT hB sB⟩
def BeginPost (k : Int) (m st : Array Value) (w : World) (e : Ending) (w' : World) : Prop := e = .returned (.tuple #[.agg m, .agg st, .int .i64 k]) ∧ Only [] w w'
set_option maxRecDepth 100000 in
set_option maxHeartbeats 12800000 in
theorem Begin_form (w : World) (s e tt : ByteArray) (n sd : Nat) (hs : s.size ≤ maxLen) (he : e.size ≤ maxLen) (ht : tt.size ≤ maxLen) (hb : (termsB [s, e] && pubsB [tt]) = false) : Calls Tryz.prog 38 #[.string s, .string e, .string tt, .int .u64 n, .int .u32 sd] w (BeginPost 3 #[.int .i64 0, .int .u32 0, .int .u32 0, .int .u64 0, .string ⟨#[]⟩, .string ⟨#[]⟩, .string ⟨#[]⟩, .string ⟨#[]⟩, .string ⟨#[]⟩, .string ⟨#[]⟩, .string ⟨#[]⟩, .string ⟨#[]⟩, .string ⟨#[]⟩] #[.int .u32 0, .string ⟨#[]⟩, .string ⟨#[]⟩, .string ⟨#[]⟩] w) := by
  have KT := hide (fun W G hG => terms_new2 W G hG s e hs he)
  have KP := hide (fun W G hG => pubs_new1 W G hG tt ht)
  unfold RetB at KT KP
  have HR1 := hide ((Blk.new w 25 #[.int .i64 0, .int .u32 0, .int .u32 0, .int .u64 0, .string ⟨#[]⟩, .string ⟨#[]⟩, .string ⟨#[]⟩, .string ⟨#[]⟩, .string ⟨#[]⟩, .string ⟨#[]⟩, .string ⟨#[]⟩, .string ⟨#[]⟩, .string ⟨#[]⟩]).alloc (.cells #[.int .u32 0, .string ⟨#[]⟩, .string ⟨#[]⟩, .string ⟨#[]⟩] 72))
  have HR2 := hide (Blk.new (w.alloc (.cells #[.int .i64 0, .int .u32 0, .int .u32 0, .int .u64 0, .string ⟨#[]⟩, .string ⟨#[]⟩, .string ⟨#[]⟩, .string ⟨#[]⟩, .string ⟨#[]⟩, .string ⟨#[]⟩, .string ⟨#[]⟩, .string ⟨#[]⟩, .string ⟨#[]⟩] 25)) 72 #[.int .u32 0, .string ⟨#[]⟩, .string ⟨#[]⟩, .string ⟨#[]⟩])
  rw [World.size_alloc] at HR2
  have HO := hide (((Only.refl [] w).alloc (.cells #[.int .i64 0, .int .u32 0, .int .u32 0, .int .u64 0, .string ⟨#[]⟩, .string ⟨#[]⟩, .string ⟨#[]⟩, .string ⟨#[]⟩, .string ⟨#[]⟩, .string ⟨#[]⟩, .string ⟨#[]⟩, .string ⟨#[]⟩, .string ⟨#[]⟩] 25)).alloc (.cells #[.int .u32 0, .string ⟨#[]⟩, .string ⟨#[]⟩, .string ⟨#[]⟩] 72))
  clear hs he ht
  cases h1 : termsB [s, e] with
  | false =>
    rw [h1] at KT
    clear hb h1
    go_enter Tryz.func38, Tryz.ntmps38
    go_upto_region 1 with fail
    generalize ((w.alloc (.cells #[.int .i64 0, .int .u32 0, .int .u32 0, .int .u64 0, .string ⟨#[]⟩, .string ⟨#[]⟩, .string ⟨#[]⟩, .string ⟨#[]⟩, .string ⟨#[]⟩, .string ⟨#[]⟩, .string ⟨#[]⟩, .string ⟨#[]⟩, .string ⟨#[]⟩] 25)).alloc (.cells #[.int .u32 0, .string ⟨#[]⟩, .string ⟨#[]⟩, .string ⟨#[]⟩] 72)) = v0 at *
    obtain ⟨q0, q1, q2, q3, q4, q5, q6, q7, q8, q9, q10, q11, q12⟩ := cells13 HR1.out; have qf := HR1.out.frozen; obtain ⟨z0, z1, z2, z3⟩ := cells4 HR2.out; have zf := HR2.out.frozen
    go_wp2_with (first
      | (go_at_call 88; refine (KT.out _ _ rfl).mono ?_; rintro e wt ⟨rfl, ho⟩; replace HR1 := hon HR1 ho; replace HR2 := hon HR2 ho; replace HO := htr HO ho; clear ho; (first | (clear q0 q1 q2 q3 q4 q5 q6 q7 q8 q9 q10 q11 q12 qf z0 z1 z2 z3 zf) | skip); obtain ⟨q0, q1, q2, q3, q4, q5, q6, q7, q8, q9, q10, q11, q12⟩ := cells13 HR1.out; have qf := HR1.out.frozen; obtain ⟨z0, z1, z2, z3⟩ := cells4 HR2.out; have zf := HR2.out.frozen)
      | (go_at_call 89; refine (KP.out _ _ rfl).mono ?_; rintro e wp ⟨rfl, ho⟩; replace HR1 := hon HR1 ho; replace HR2 := hon HR2 ho; replace HO := htr HO ho; clear ho; (first | (clear q0 q1 q2 q3 q4 q5 q6 q7 q8 q9 q10 q11 q12 qf z0 z1 z2 z3 zf) | skip); obtain ⟨q0, q1, q2, q3, q4, q5, q6, q7, q8, q9, q10, q11, q12⟩ := cells13 HR1.out; have qf := HR1.out.frozen; obtain ⟨z0, z1, z2, z3⟩ := cells4 HR2.out; have zf := HR2.out.frozen))
    refine bodyPost_ret (results_two_cells rfl _ _ w.heap.size (w.heap.size + 1) 25 72 _ _ (0, 0) (0, 0) _ _ rfl rfl (nfar4 (set13 HR1.out (.int .i64 0) (.int .u32 0) (.int .u32 0) (.int .u64 0) (.string ⟨#[]⟩) (.string ⟨#[]⟩) (.string ⟨#[]⟩) (.string ⟨#[]⟩) (.string ⟨#[]⟩) (.string ⟨#[]⟩) (.string ⟨#[]⟩) (.string ⟨#[]⟩) (.string ⟨#[]⟩)) (Nat.ne_of_lt (Nat.lt_succ_self _)) (.int .u32 0) (.string ⟨#[]⟩) (.string ⟨#[]⟩) (.string ⟨#[]⟩)) (set4 (nfar13 HR2.out (Nat.ne_of_gt (Nat.lt_succ_self _)) (.int .i64 0) (.int .u32 0) (.int .u32 0) (.int .u64 0) (.string ⟨#[]⟩) (.string ⟨#[]⟩) (.string ⟨#[]⟩) (.string ⟨#[]⟩) (.string ⟨#[]⟩) (.string ⟨#[]⟩) (.string ⟨#[]⟩) (.string ⟨#[]⟩) (.string ⟨#[]⟩)) (.int .u32 0) (.string ⟨#[]⟩) (.string ⟨#[]⟩) (.string ⟨#[]⟩)) Tryz.underlying25 rfl (by kernel_rfl) Tryz.underlying72 rfl (by kernel_rfl)) rfl ?_
    exact ⟨rfl, only4 (only13 HO.out (.inr (Nat.le_refl _)) (.int .i64 0) (.int .u32 0) (.int .u32 0) (.int .u64 0) (.string ⟨#[]⟩) (.string ⟨#[]⟩) (.string ⟨#[]⟩) (.string ⟨#[]⟩) (.string ⟨#[]⟩) (.string ⟨#[]⟩) (.string ⟨#[]⟩) (.string ⟨#[]⟩) (.string ⟨#[]⟩)) (.inr (Nat.le_succ _)) (.int .u32 0) (.string ⟨#[]⟩) (.string ⟨#[]⟩) (.string ⟨#[]⟩)⟩
  | true =>
    rw [h1, Bool.true_and] at hb
    rw [h1] at KT
    rw [hb] at KP
    clear hb h1
    go_enter Tryz.func38, Tryz.ntmps38
    go_upto_region 1 with fail
    generalize ((w.alloc (.cells #[.int .i64 0, .int .u32 0, .int .u32 0, .int .u64 0, .string ⟨#[]⟩, .string ⟨#[]⟩, .string ⟨#[]⟩, .string ⟨#[]⟩, .string ⟨#[]⟩, .string ⟨#[]⟩, .string ⟨#[]⟩, .string ⟨#[]⟩, .string ⟨#[]⟩] 25)).alloc (.cells #[.int .u32 0, .string ⟨#[]⟩, .string ⟨#[]⟩, .string ⟨#[]⟩] 72)) = v0 at *
    obtain ⟨q0, q1, q2, q3, q4, q5, q6, q7, q8, q9, q10, q11, q12⟩ := cells13 HR1.out; have qf := HR1.out.frozen; obtain ⟨z0, z1, z2, z3⟩ := cells4 HR2.out; have zf := HR2.out.frozen
    go_wp2_with (first
      | (go_at_call 88; refine (KT.out _ _ rfl).mono ?_; rintro e wt ⟨rfl, ho⟩; replace HR1 := hon HR1 ho; replace HR2 := hon HR2 ho; replace HO := htr HO ho; clear ho; (first | (clear q0 q1 q2 q3 q4 q5 q6 q7 q8 q9 q10 q11 q12 qf z0 z1 z2 z3 zf) | skip); obtain ⟨q0, q1, q2, q3, q4, q5, q6, q7, q8, q9, q10, q11, q12⟩ := cells13 HR1.out; have qf := HR1.out.frozen; obtain ⟨z0, z1, z2, z3⟩ := cells4 HR2.out; have zf := HR2.out.frozen)
      | (go_at_call 89; refine (KP.out _ _ rfl).mono ?_; rintro e wp ⟨rfl, ho⟩; replace HR1 := hon HR1 ho; replace HR2 := hon HR2 ho; replace HO := htr HO ho; clear ho; (first | (clear q0 q1 q2 q3 q4 q5 q6 q7 q8 q9 q10 q11 q12 qf z0 z1 z2 z3 zf) | skip); obtain ⟨q0, q1, q2, q3, q4, q5, q6, q7, q8, q9, q10, q11, q12⟩ := cells13 HR1.out; have qf := HR1.out.frozen; obtain ⟨z0, z1, z2, z3⟩ := cells4 HR2.out; have zf := HR2.out.frozen))
    refine bodyPost_ret (results_two_cells rfl _ _ w.heap.size (w.heap.size + 1) 25 72 _ _ (0, 0) (0, 0) _ _ rfl rfl (nfar4 (set13 HR1.out (.int .i64 0) (.int .u32 0) (.int .u32 0) (.int .u64 0) (.string ⟨#[]⟩) (.string ⟨#[]⟩) (.string ⟨#[]⟩) (.string ⟨#[]⟩) (.string ⟨#[]⟩) (.string ⟨#[]⟩) (.string ⟨#[]⟩) (.string ⟨#[]⟩) (.string ⟨#[]⟩)) (Nat.ne_of_lt (Nat.lt_succ_self _)) (.int .u32 0) (.string ⟨#[]⟩) (.string ⟨#[]⟩) (.string ⟨#[]⟩)) (set4 (nfar13 HR2.out (Nat.ne_of_gt (Nat.lt_succ_self _)) (.int .i64 0) (.int .u32 0) (.int .u32 0) (.int .u64 0) (.string ⟨#[]⟩) (.string ⟨#[]⟩) (.string ⟨#[]⟩) (.string ⟨#[]⟩) (.string ⟨#[]⟩) (.string ⟨#[]⟩) (.string ⟨#[]⟩) (.string ⟨#[]⟩) (.string ⟨#[]⟩)) (.int .u32 0) (.string ⟨#[]⟩) (.string ⟨#[]⟩) (.string ⟨#[]⟩)) Tryz.underlying25 rfl (by kernel_rfl) Tryz.underlying72 rfl (by kernel_rfl)) rfl ?_
    exact ⟨rfl, only4 (only13 HO.out (.inr (Nat.le_refl _)) (.int .i64 0) (.int .u32 0) (.int .u32 0) (.int .u64 0) (.string ⟨#[]⟩) (.string ⟨#[]⟩) (.string ⟨#[]⟩) (.string ⟨#[]⟩) (.string ⟨#[]⟩) (.string ⟨#[]⟩) (.string ⟨#[]⟩) (.string ⟨#[]⟩) (.string ⟨#[]⟩)) (.inr (Nat.le_succ _)) (.int .u32 0) (.string ⟨#[]⟩) (.string ⟨#[]⟩) (.string ⟨#[]⟩)⟩
end
section
open Go.RowKit Go.Deep

set_option maxRecDepth 100000 in
set_option maxHeartbeats 6400000 in
theorem With_1 (w : World) (s r c : Nat) (g o cap : Nat) (x0 x1 x2 x3 x4 : ByteArray) (_hc : 5 ≤ cap) (h0 : w.cell? ⟨g, o, none⟩ = some (.string x0)) (h1 : w.cell? ⟨g, o + 1, none⟩ = some (.string x1)) (h2 : w.cell? ⟨g, o + 2, none⟩ = some (.string x2)) (h3 : w.cell? ⟨g, o + 3, none⟩ = some (.string x3)) (h4 : w.cell? ⟨g, o + 4, none⟩ = some (.string x4)) :
    Calls Tryz.prog 47 #[.int .i64 1, .int .u32 (s : Nat), .int .u32 (r : Nat), .int .u64 (c : Nat), .slice (some ⟨g, o, none⟩) 5 cap] w fun e w' =>
      e = .returned (.agg #[.int .i64 1, .int .u32 (s : Nat), .int .u32 0, .int .u64 0, .string x0, .string x1, .string x2, .string ⟨#[]⟩, .string ⟨#[]⟩, .string ⟨#[]⟩, .string ⟨#[]⟩, .string x3, .string x4]) ∧ Only [] w w' := by
  have hg : g < w.heap.size := by have := World.block_lt_of_cell? w _ h0; simpa using this
  have HRB := hide (Blk.new w 25 #[.int .i64 0, .int .u32 0, .int .u32 0, .int .u64 0, .string ⟨#[]⟩, .string ⟨#[]⟩, .string ⟨#[]⟩, .string ⟨#[]⟩, .string ⟨#[]⟩, .string ⟨#[]⟩, .string ⟨#[]⟩, .string ⟨#[]⟩, .string ⟨#[]⟩])
  have HO := hide ((Only.refl [] w).alloc (.cells #[.int .i64 0, .int .u32 0, .int .u32 0, .int .u64 0, .string ⟨#[]⟩, .string ⟨#[]⟩, .string ⟨#[]⟩, .string ⟨#[]⟩, .string ⟨#[]⟩, .string ⟨#[]⟩, .string ⟨#[]⟩, .string ⟨#[]⟩, .string ⟨#[]⟩] 25))
  have d0 := (cell_only HO.out hg (by simp)).trans h0
  have d1 := (cell_only HO.out hg (by simp)).trans h1
  have d2 := (cell_only HO.out hg (by simp)).trans h2
  have d3 := (cell_only HO.out hg (by simp)).trans h3
  have d4 := (cell_only HO.out hg (by simp)).trans h4
  go_enter Tryz.func47, Tryz.ntmps47
  go_wp2_with fail
  generalize (w.alloc (.cells #[.int .i64 0, .int .u32 0, .int .u32 0, .int .u64 0, .string ⟨#[]⟩, .string ⟨#[]⟩, .string ⟨#[]⟩, .string ⟨#[]⟩, .string ⟨#[]⟩, .string ⟨#[]⟩, .string ⟨#[]⟩, .string ⟨#[]⟩, .string ⟨#[]⟩] 25)) = W at *
  have r0 := HRB.out.cell 0
  have r1 := HRB.out.cell 1
  have r2 := HRB.out.cell 2
  have r3 := HRB.out.cell 3
  have r4 := HRB.out.cell 4
  have r5 := HRB.out.cell 5
  have r6 := HRB.out.cell 6
  have r7 := HRB.out.cell 7
  have r8 := HRB.out.cell 8
  have r9 := HRB.out.cell 9
  have r10 := HRB.out.cell 10
  have r11 := HRB.out.cell 11
  have r12 := HRB.out.cell 12
  simp at r0 r1 r2 r3 r4 r5 r6 r7 r8 r9 r10 r11 r12
  have rf := HRB.out.frozen
  go_still_tail 17, (by kernel_rfl)
  change wpList _ _ _ _ _ W.drew
  go_wp2_with fail
  refine bodyPost_ret (results_cell_row rfl _ _ w.heap.size 25 _ (0, 0) _ rfl ((set13 HRB.out (.int .i64 1) (.int .u32 (s : Nat)) (.int .u32 0) (.int .u64 0) (.string x0) (.string x1) (.string x2) (.string ⟨#[]⟩) (.string ⟨#[]⟩) (.string ⟨#[]⟩) (.string ⟨#[]⟩) (.string x3) (.string x4)).drew) Tryz.underlying25 rfl (by kernel_rfl)) rfl ?_
  exact ⟨rfl, (only13 HO.out (.inr (Nat.le_refl _)) (.int .i64 1) (.int .u32 (s : Nat)) (.int .u32 0) (.int .u64 0) (.string x0) (.string x1) (.string x2) (.string ⟨#[]⟩) (.string ⟨#[]⟩) (.string ⟨#[]⟩) (.string ⟨#[]⟩) (.string x3) (.string x4)).drew⟩

set_option maxRecDepth 100000 in
set_option maxHeartbeats 6400000 in
theorem With_2 (w : World) (s r c : Nat) (g o cap : Nat) (x0 x1 x2 x3 : ByteArray) (_hc : 4 ≤ cap) (h0 : w.cell? ⟨g, o, none⟩ = some (.string x0)) (h1 : w.cell? ⟨g, o + 1, none⟩ = some (.string x1)) (h2 : w.cell? ⟨g, o + 2, none⟩ = some (.string x2)) (h3 : w.cell? ⟨g, o + 3, none⟩ = some (.string x3)) :
    Calls Tryz.prog 47 #[.int .i64 2, .int .u32 (s : Nat), .int .u32 (r : Nat), .int .u64 (c : Nat), .slice (some ⟨g, o, none⟩) 4 cap] w fun e w' =>
      e = .returned (.agg #[.int .i64 2, .int .u32 (s : Nat), .int .u32 (r : Nat), .int .u64 0, .string x0, .string ⟨#[]⟩, .string ⟨#[]⟩, .string x1, .string ⟨#[]⟩, .string ⟨#[]⟩, .string ⟨#[]⟩, .string x2, .string x3]) ∧ Only [] w w' := by
  have hg : g < w.heap.size := by have := World.block_lt_of_cell? w _ h0; simpa using this
  have HRB := hide (Blk.new w 25 #[.int .i64 0, .int .u32 0, .int .u32 0, .int .u64 0, .string ⟨#[]⟩, .string ⟨#[]⟩, .string ⟨#[]⟩, .string ⟨#[]⟩, .string ⟨#[]⟩, .string ⟨#[]⟩, .string ⟨#[]⟩, .string ⟨#[]⟩, .string ⟨#[]⟩])
  have HO := hide ((Only.refl [] w).alloc (.cells #[.int .i64 0, .int .u32 0, .int .u32 0, .int .u64 0, .string ⟨#[]⟩, .string ⟨#[]⟩, .string ⟨#[]⟩, .string ⟨#[]⟩, .string ⟨#[]⟩, .string ⟨#[]⟩, .string ⟨#[]⟩, .string ⟨#[]⟩, .string ⟨#[]⟩] 25))
  have d0 := (cell_only HO.out hg (by simp)).trans h0
  have d1 := (cell_only HO.out hg (by simp)).trans h1
  have d2 := (cell_only HO.out hg (by simp)).trans h2
  have d3 := (cell_only HO.out hg (by simp)).trans h3
  go_enter Tryz.func47, Tryz.ntmps47
  go_wp2_with fail
  generalize (w.alloc (.cells #[.int .i64 0, .int .u32 0, .int .u32 0, .int .u64 0, .string ⟨#[]⟩, .string ⟨#[]⟩, .string ⟨#[]⟩, .string ⟨#[]⟩, .string ⟨#[]⟩, .string ⟨#[]⟩, .string ⟨#[]⟩, .string ⟨#[]⟩, .string ⟨#[]⟩] 25)) = W at *
  have r0 := HRB.out.cell 0
  have r1 := HRB.out.cell 1
  have r2 := HRB.out.cell 2
  have r3 := HRB.out.cell 3
  have r4 := HRB.out.cell 4
  have r5 := HRB.out.cell 5
  have r6 := HRB.out.cell 6
  have r7 := HRB.out.cell 7
  have r8 := HRB.out.cell 8
  have r9 := HRB.out.cell 9
  have r10 := HRB.out.cell 10
  have r11 := HRB.out.cell 11
  have r12 := HRB.out.cell 12
  simp at r0 r1 r2 r3 r4 r5 r6 r7 r8 r9 r10 r11 r12
  have rf := HRB.out.frozen
  go_still_tail 15, (by kernel_rfl)
  change wpList _ _ _ _ _ W.drew
  go_wp2_with fail
  refine bodyPost_ret (results_cell_row rfl _ _ w.heap.size 25 _ (0, 0) _ rfl ((set13 HRB.out (.int .i64 2) (.int .u32 (s : Nat)) (.int .u32 (r : Nat)) (.int .u64 0) (.string x0) (.string ⟨#[]⟩) (.string ⟨#[]⟩) (.string x1) (.string ⟨#[]⟩) (.string ⟨#[]⟩) (.string ⟨#[]⟩) (.string x2) (.string x3)).drew) Tryz.underlying25 rfl (by kernel_rfl)) rfl ?_
  exact ⟨rfl, (only13 HO.out (.inr (Nat.le_refl _)) (.int .i64 2) (.int .u32 (s : Nat)) (.int .u32 (r : Nat)) (.int .u64 0) (.string x0) (.string ⟨#[]⟩) (.string ⟨#[]⟩) (.string x1) (.string ⟨#[]⟩) (.string ⟨#[]⟩) (.string ⟨#[]⟩) (.string x2) (.string x3)).drew⟩

set_option maxRecDepth 100000 in
set_option maxHeartbeats 6400000 in
theorem With_3 (w : World) (s r c : Nat) (g o cap : Nat) (x0 x1 : ByteArray) (_hc : 2 ≤ cap) (h0 : w.cell? ⟨g, o, none⟩ = some (.string x0)) (h1 : w.cell? ⟨g, o + 1, none⟩ = some (.string x1)) :
    Calls Tryz.prog 47 #[.int .i64 3, .int .u32 (s : Nat), .int .u32 (r : Nat), .int .u64 (c : Nat), .slice (some ⟨g, o, none⟩) 2 cap] w fun e w' =>
      e = .returned (.agg #[.int .i64 3, .int .u32 0, .int .u32 (r : Nat), .int .u64 0, .string ⟨#[]⟩, .string ⟨#[]⟩, .string ⟨#[]⟩, .string ⟨#[]⟩, .string x0, .string x1, .string ⟨#[]⟩, .string ⟨#[]⟩, .string ⟨#[]⟩]) ∧ Only [] w w' := by
  have hg : g < w.heap.size := by have := World.block_lt_of_cell? w _ h0; simpa using this
  have HRB := hide (Blk.new w 25 #[.int .i64 0, .int .u32 0, .int .u32 0, .int .u64 0, .string ⟨#[]⟩, .string ⟨#[]⟩, .string ⟨#[]⟩, .string ⟨#[]⟩, .string ⟨#[]⟩, .string ⟨#[]⟩, .string ⟨#[]⟩, .string ⟨#[]⟩, .string ⟨#[]⟩])
  have HO := hide ((Only.refl [] w).alloc (.cells #[.int .i64 0, .int .u32 0, .int .u32 0, .int .u64 0, .string ⟨#[]⟩, .string ⟨#[]⟩, .string ⟨#[]⟩, .string ⟨#[]⟩, .string ⟨#[]⟩, .string ⟨#[]⟩, .string ⟨#[]⟩, .string ⟨#[]⟩, .string ⟨#[]⟩] 25))
  have d0 := (cell_only HO.out hg (by simp)).trans h0
  have d1 := (cell_only HO.out hg (by simp)).trans h1
  go_enter Tryz.func47, Tryz.ntmps47
  go_wp2_with fail
  generalize (w.alloc (.cells #[.int .i64 0, .int .u32 0, .int .u32 0, .int .u64 0, .string ⟨#[]⟩, .string ⟨#[]⟩, .string ⟨#[]⟩, .string ⟨#[]⟩, .string ⟨#[]⟩, .string ⟨#[]⟩, .string ⟨#[]⟩, .string ⟨#[]⟩, .string ⟨#[]⟩] 25)) = W at *
  have r0 := HRB.out.cell 0
  have r1 := HRB.out.cell 1
  have r2 := HRB.out.cell 2
  have r3 := HRB.out.cell 3
  have r4 := HRB.out.cell 4
  have r5 := HRB.out.cell 5
  have r6 := HRB.out.cell 6
  have r7 := HRB.out.cell 7
  have r8 := HRB.out.cell 8
  have r9 := HRB.out.cell 9
  have r10 := HRB.out.cell 10
  have r11 := HRB.out.cell 11
  have r12 := HRB.out.cell 12
  simp at r0 r1 r2 r3 r4 r5 r6 r7 r8 r9 r10 r11 r12
  have rf := HRB.out.frozen
  go_still_tail 8, (by kernel_rfl)
  change wpList _ _ _ _ _ W.drew
  go_wp2_with fail
  refine bodyPost_ret (results_cell_row rfl _ _ w.heap.size 25 _ (0, 0) _ rfl ((set13 HRB.out (.int .i64 3) (.int .u32 0) (.int .u32 (r : Nat)) (.int .u64 0) (.string ⟨#[]⟩) (.string ⟨#[]⟩) (.string ⟨#[]⟩) (.string ⟨#[]⟩) (.string x0) (.string x1) (.string ⟨#[]⟩) (.string ⟨#[]⟩) (.string ⟨#[]⟩)).drew) Tryz.underlying25 rfl (by kernel_rfl)) rfl ?_
  exact ⟨rfl, (only13 HO.out (.inr (Nat.le_refl _)) (.int .i64 3) (.int .u32 0) (.int .u32 (r : Nat)) (.int .u64 0) (.string ⟨#[]⟩) (.string ⟨#[]⟩) (.string ⟨#[]⟩) (.string ⟨#[]⟩) (.string x0) (.string x1) (.string ⟨#[]⟩) (.string ⟨#[]⟩) (.string ⟨#[]⟩)).drew⟩

set_option maxRecDepth 100000 in
set_option maxHeartbeats 6400000 in
theorem With_4 (w : World) (s r c : Nat) (g o cap : Nat) (x0 : ByteArray) (_hc : 1 ≤ cap) (h0 : w.cell? ⟨g, o, none⟩ = some (.string x0)) :
    Calls Tryz.prog 47 #[.int .i64 4, .int .u32 (s : Nat), .int .u32 (r : Nat), .int .u64 (c : Nat), .slice (some ⟨g, o, none⟩) 1 cap] w fun e w' =>
      e = .returned (.agg #[.int .i64 4, .int .u32 0, .int .u32 (r : Nat), .int .u64 (c : Nat), .string ⟨#[]⟩, .string ⟨#[]⟩, .string ⟨#[]⟩, .string ⟨#[]⟩, .string ⟨#[]⟩, .string ⟨#[]⟩, .string x0, .string ⟨#[]⟩, .string ⟨#[]⟩]) ∧ Only [] w w' := by
  have hg : g < w.heap.size := by have := World.block_lt_of_cell? w _ h0; simpa using this
  have HRB := hide (Blk.new w 25 #[.int .i64 0, .int .u32 0, .int .u32 0, .int .u64 0, .string ⟨#[]⟩, .string ⟨#[]⟩, .string ⟨#[]⟩, .string ⟨#[]⟩, .string ⟨#[]⟩, .string ⟨#[]⟩, .string ⟨#[]⟩, .string ⟨#[]⟩, .string ⟨#[]⟩])
  have HO := hide ((Only.refl [] w).alloc (.cells #[.int .i64 0, .int .u32 0, .int .u32 0, .int .u64 0, .string ⟨#[]⟩, .string ⟨#[]⟩, .string ⟨#[]⟩, .string ⟨#[]⟩, .string ⟨#[]⟩, .string ⟨#[]⟩, .string ⟨#[]⟩, .string ⟨#[]⟩, .string ⟨#[]⟩] 25))
  have d0 := (cell_only HO.out hg (by simp)).trans h0
  go_enter Tryz.func47, Tryz.ntmps47
  go_upto_region 8 with fail
  generalize (w.alloc (.cells #[.int .i64 0, .int .u32 0, .int .u32 0, .int .u64 0, .string ⟨#[]⟩, .string ⟨#[]⟩, .string ⟨#[]⟩, .string ⟨#[]⟩, .string ⟨#[]⟩, .string ⟨#[]⟩, .string ⟨#[]⟩, .string ⟨#[]⟩, .string ⟨#[]⟩] 25)) = W at *
  have r0 := HRB.out.cell 0
  have r1 := HRB.out.cell 1
  have r2 := HRB.out.cell 2
  have r3 := HRB.out.cell 3
  have r4 := HRB.out.cell 4
  have r5 := HRB.out.cell 5
  have r6 := HRB.out.cell 6
  have r7 := HRB.out.cell 7
  have r8 := HRB.out.cell 8
  have r9 := HRB.out.cell 9
  have r10 := HRB.out.cell 10
  have r11 := HRB.out.cell 11
  have r12 := HRB.out.cell 12
  simp at r0 r1 r2 r3 r4 r5 r6 r7 r8 r9 r10 r11 r12
  have rf := HRB.out.frozen
  go_wp2_with fail
  refine bodyPost_ret (results_cell_row rfl _ _ w.heap.size 25 _ (0, 0) _ rfl ((set13 HRB.out (.int .i64 4) (.int .u32 0) (.int .u32 (r : Nat)) (.int .u64 (c : Nat)) (.string ⟨#[]⟩) (.string ⟨#[]⟩) (.string ⟨#[]⟩) (.string ⟨#[]⟩) (.string ⟨#[]⟩) (.string ⟨#[]⟩) (.string x0) (.string ⟨#[]⟩) (.string ⟨#[]⟩))) Tryz.underlying25 rfl (by kernel_rfl)) rfl ?_
  exact ⟨rfl, (only13 HO.out (.inr (Nat.le_refl _)) (.int .i64 4) (.int .u32 0) (.int .u32 (r : Nat)) (.int .u64 (c : Nat)) (.string ⟨#[]⟩) (.string ⟨#[]⟩) (.string ⟨#[]⟩) (.string ⟨#[]⟩) (.string ⟨#[]⟩) (.string ⟨#[]⟩) (.string x0) (.string ⟨#[]⟩) (.string ⟨#[]⟩))⟩
end
end Go.Proofs.YtfipdjlalfpbnaaGreatDoor

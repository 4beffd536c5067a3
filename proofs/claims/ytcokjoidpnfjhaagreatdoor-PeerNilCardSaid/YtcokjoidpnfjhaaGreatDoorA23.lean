/-
  Walks and plain words (texts No2, Make, Src, Src2). No condition beyond those that each theorem states.
-/
import Derived.Test.YtcokjoidpnfjhaaGreatDoorA22
namespace Go.Proofs.YtcokjoidpnfjhaaGreatDoor
section
open Go.RowKit Go.Deep

theorem set4 {w : World} {R : Nat} {t : TypeId} {a0 a1 a2 a3 : Value} (h : Blk w R t #[a0, a1, a2, a3]) (v0 v1 v2 v3 : Value) : Blk ((((w.setCell ⟨R, 0, none⟩ v0).setCell ⟨R, 1, none⟩ v1).setCell ⟨R, 2, none⟩ v2).setCell ⟨R, 3, none⟩ v3) R t #[v0, v1, v2, v3] := by
  have h2 := ((((h.set_ 0 v0).set_ 1 v1).set_ 2 v2).set_ 3 v3)
  simp only [List.setIfInBounds_toArray, List.set_cons_zero, List.set_cons_succ] at h2
  exact h2
theorem only4 {S : List Nat} {a w : World} {R : Nat} (h : Only S a w) (hR : R ∈ S ∨ a.heap.size ≤ R) (v0 v1 v2 v3 : Value) : Only S a ((((w.setCell ⟨R, 0, none⟩ v0).setCell ⟨R, 1, none⟩ v1).setCell ⟨R, 2, none⟩ v2).setCell ⟨R, 3, none⟩ v3) :=
  ((((h.setCell (p := ⟨R, 0, none⟩) hR v0).setCell (p := ⟨R, 1, none⟩) hR v1).setCell (p := ⟨R, 2, none⟩) hR v2).setCell (p := ⟨R, 3, none⟩) hR v3)
theorem nfar4 {w : World} {g R : Nat} {t : TypeId} {cs : Array Value} (h : Blk w g t cs) (hR : g ≠ R) (v0 v1 v2 v3 : Value) : Blk ((((w.setCell ⟨R, 0, none⟩ v0).setCell ⟨R, 1, none⟩ v1).setCell ⟨R, 2, none⟩ v2).setCell ⟨R, 3, none⟩ v3) g t cs :=
  ((((h.far (p := ⟨R, 0, none⟩) hR v0).far (p := ⟨R, 1, none⟩) hR v1).far (p := ⟨R, 2, none⟩) hR v2).far (p := ⟨R, 3, none⟩) hR v3)
theorem nfar13 {w : World} {g R : Nat} {t : TypeId} {cs : Array Value} (h : Blk w g t cs) (hR : g ≠ R) (v0 v1 v2 v3 v4 v5 v6 v7 v8 v9 v10 v11 v12 : Value) : Blk (((((((((((((w.setCell ⟨R, 0, none⟩ v0).setCell ⟨R, 1, none⟩ v1).setCell ⟨R, 2, none⟩ v2).setCell ⟨R, 3, none⟩ v3).setCell ⟨R, 4, none⟩ v4).setCell ⟨R, 5, none⟩ v5).setCell ⟨R, 6, none⟩ v6).setCell ⟨R, 7, none⟩ v7).setCell ⟨R, 8, none⟩ v8).setCell ⟨R, 9, none⟩ v9).setCell ⟨R, 10, none⟩ v10).setCell ⟨R, 11, none⟩ v11).setCell ⟨R, 12, none⟩ v12) g t cs :=
  (((((((((((((h.far (p := ⟨R, 0, none⟩) hR v0).far (p := ⟨R, 1, none⟩) hR v1).far (p := ⟨R, 2, none⟩) hR v2).far (p := ⟨R, 3, none⟩) hR v3).far (p := ⟨R, 4, none⟩) hR v4).far (p := ⟨R, 5, none⟩) hR v5).far (p := ⟨R, 6, none⟩) hR v6).far (p := ⟨R, 7, none⟩) hR v7).far (p := ⟨R, 8, none⟩) hR v8).far (p := ⟨R, 9, none⟩) hR v9).far (p := ⟨R, 10, none⟩) hR v10).far (p := ⟨R, 11, none⟩) hR v11).far (p := ⟨R, 12, none⟩) hR v12)
theorem results_two_cells {P : Program} {fn : Func} {p q r : Tmp} {ty ty2 : TypeId} (h : fn.results = #[.cell p ty, .cell q ty2, .tmp r]) (tmps : Array Value) (w : World) (g g2 : Nat) (t t2 : TypeId) (cs cs2 : Array Value) (fr fr2 : Nat × Nat) (d d2 : TypeDesc)
    (hp : tmps.getD p undef = .pointer (some ⟨g, 0, none⟩)) (hq : tmps.getD q undef = .pointer (some ⟨g2, 0, none⟩)) (hg : w.heap[g]? = some (.cells cs t fr)) (hg2 : w.heap[g2]? = some (.cells cs2 t2 fr2))
    (hu : P.underlying ty = some d) (hd : (match d with | .struct _ | .array _ _ => true | _ => false) = true) (hi : (P.info? ty).map (·.size) = some cs.size)
    (hu2 : P.underlying ty2 = some d2) (hd2 : (match d2 with | .struct _ | .array _ _ => true | _ => false) = true) (hi2 : (P.info? ty2).map (·.size) = some cs2.size) :
    (results fn tmps).run P w = .ok (.tuple #[.agg cs, .agg cs2, tmps.getD r undef]) w := by
  have hp' : tmps[p]?.getD undef = .pointer (some ⟨g, 0, none⟩) := by simpa using hp
  have hq' : tmps[q]?.getD undef = .pointer (some ⟨g2, 0, none⟩) := by simpa using hq
  simp [results, h, hp', hq', asAddr, run_loadVar_row w g t ty cs fr d hg hu hd hi, run_loadVar_row w g2 t2 ty2 cs2 fr2 d2 hg2 hu2 hd2 hi2]
/-- What Begin makes. -/
structure Bgn where
  eph : ByteArray
  sA : ByteArray
  sB : ByteArray
  c : ByteArray
  h : ByteArray
noncomputable def begV (s e tt : ByteArray) (n : Nat) : Bgn :=
  let eph := pubT e
  let cA := begC eph
  let hA := begH tt eph
  let uA := agreeT e tt
  let sA := sealN (kdfT 2 cA uA) (pubT s) hA
  let cB := kdfT 1 cA uA
  let hB := hashT hA sA
  let uB := agreeT s tt
  let sB := sealN (kdfT 2 cB uB) (numT n) hB
  ⟨eph, sA, sB, kdfT 1 cB uB, hashT hB sB⟩
def BeginPost (k : Int) (m st : Array Value) (w : World) (e : Ending) (w' : World) : Prop := e = .returned (.tuple #[.agg m, .agg st, .int .i64 k]) ∧ Only [] w w'
set_option maxRecDepth 100000 in
set_option maxHeartbeats 12800000 in
theorem Begin_form (w : World) (s e tt : ByteArray) (n sd : Nat) (hs : s.size ≤ maxLen) (he : e.size ≤ maxLen) (ht : tt.size ≤ maxLen) (hb : (termsB [s, e] && pubsB [tt]) = false) : Calls Tryz.prog 58 #[.string s, .string e, .string tt, .int .u64 n, .int .u32 sd] w (BeginPost 3 #[.int .i64 0, .int .u32 0, .int .u32 0, .int .u64 0, .string ⟨#[]⟩, .string ⟨#[]⟩, .string ⟨#[]⟩, .string ⟨#[]⟩, .string ⟨#[]⟩, .string ⟨#[]⟩, .string ⟨#[]⟩, .string ⟨#[]⟩, .string ⟨#[]⟩] #[.int .u32 0, .string ⟨#[]⟩, .string ⟨#[]⟩, .string ⟨#[]⟩] w) := by
  have KT := hide (fun W G hG => terms_new2 W G hG s e hs he)
  have KP := hide (fun W G hG => pubs_new1 W G hG tt ht)
  unfold RetB at KT KP
  have HR1 := hide ((Blk.new w 29 #[.int .i64 0, .int .u32 0, .int .u32 0, .int .u64 0, .string ⟨#[]⟩, .string ⟨#[]⟩, .string ⟨#[]⟩, .string ⟨#[]⟩, .string ⟨#[]⟩, .string ⟨#[]⟩, .string ⟨#[]⟩, .string ⟨#[]⟩, .string ⟨#[]⟩]).alloc (.cells #[.int .u32 0, .string ⟨#[]⟩, .string ⟨#[]⟩, .string ⟨#[]⟩] 112))
  have HR2 := hide (Blk.new (w.alloc (.cells #[.int .i64 0, .int .u32 0, .int .u32 0, .int .u64 0, .string ⟨#[]⟩, .string ⟨#[]⟩, .string ⟨#[]⟩, .string ⟨#[]⟩, .string ⟨#[]⟩, .string ⟨#[]⟩, .string ⟨#[]⟩, .string ⟨#[]⟩, .string ⟨#[]⟩] 29)) 112 #[.int .u32 0, .string ⟨#[]⟩, .string ⟨#[]⟩, .string ⟨#[]⟩])
  rw [World.size_alloc] at HR2
  have HO := hide (((Only.refl [] w).alloc (.cells #[.int .i64 0, .int .u32 0, .int .u32 0, .int .u64 0, .string ⟨#[]⟩, .string ⟨#[]⟩, .string ⟨#[]⟩, .string ⟨#[]⟩, .string ⟨#[]⟩, .string ⟨#[]⟩, .string ⟨#[]⟩, .string ⟨#[]⟩, .string ⟨#[]⟩] 29)).alloc (.cells #[.int .u32 0, .string ⟨#[]⟩, .string ⟨#[]⟩, .string ⟨#[]⟩] 112))
  clear hs he ht
  cases h1 : termsB [s, e] with
  | false =>
    rw [h1] at KT
    clear hb h1
    go_enter Tryz.func58, Tryz.ntmps58
    go_upto_region 1 with fail
    generalize ((w.alloc (.cells #[.int .i64 0, .int .u32 0, .int .u32 0, .int .u64 0, .string ⟨#[]⟩, .string ⟨#[]⟩, .string ⟨#[]⟩, .string ⟨#[]⟩, .string ⟨#[]⟩, .string ⟨#[]⟩, .string ⟨#[]⟩, .string ⟨#[]⟩, .string ⟨#[]⟩] 29)).alloc (.cells #[.int .u32 0, .string ⟨#[]⟩, .string ⟨#[]⟩, .string ⟨#[]⟩] 112)) = v0 at *
    obtain ⟨q0, q1, q2, q3, q4, q5, q6, q7, q8, q9, q10, q11, q12⟩ := cells13 HR1.out; have qf := HR1.out.frozen; obtain ⟨z0, z1, z2, z3⟩ := cells4 HR2.out; have zf := HR2.out.frozen
    go_wp2_with (first
      | (go_at_call 123; refine (KT.out _ _ rfl).mono ?_; rintro e wt ⟨rfl, ho⟩; replace HR1 := hon HR1 ho; replace HR2 := hon HR2 ho; replace HO := htr HO ho; clear ho; (first | (clear q0 q1 q2 q3 q4 q5 q6 q7 q8 q9 q10 q11 q12 qf z0 z1 z2 z3 zf) | skip); obtain ⟨q0, q1, q2, q3, q4, q5, q6, q7, q8, q9, q10, q11, q12⟩ := cells13 HR1.out; have qf := HR1.out.frozen; obtain ⟨z0, z1, z2, z3⟩ := cells4 HR2.out; have zf := HR2.out.frozen)
      | (go_at_call 124; refine (KP.out _ _ rfl).mono ?_; rintro e wp ⟨rfl, ho⟩; replace HR1 := hon HR1 ho; replace HR2 := hon HR2 ho; replace HO := htr HO ho; clear ho; (first | (clear q0 q1 q2 q3 q4 q5 q6 q7 q8 q9 q10 q11 q12 qf z0 z1 z2 z3 zf) | skip); obtain ⟨q0, q1, q2, q3, q4, q5, q6, q7, q8, q9, q10, q11, q12⟩ := cells13 HR1.out; have qf := HR1.out.frozen; obtain ⟨z0, z1, z2, z3⟩ := cells4 HR2.out; have zf := HR2.out.frozen))
    refine bodyPost_ret (results_two_cells rfl _ _ w.heap.size (w.heap.size + 1) 29 112 _ _ (0, 0) (0, 0) _ _ rfl rfl (nfar4 (set13 HR1.out (.int .i64 0) (.int .u32 0) (.int .u32 0) (.int .u64 0) (.string ⟨#[]⟩) (.string ⟨#[]⟩) (.string ⟨#[]⟩) (.string ⟨#[]⟩) (.string ⟨#[]⟩) (.string ⟨#[]⟩) (.string ⟨#[]⟩) (.string ⟨#[]⟩) (.string ⟨#[]⟩)) (Nat.ne_of_lt (Nat.lt_succ_self _)) (.int .u32 0) (.string ⟨#[]⟩) (.string ⟨#[]⟩) (.string ⟨#[]⟩)) (set4 (nfar13 HR2.out (Nat.ne_of_gt (Nat.lt_succ_self _)) (.int .i64 0) (.int .u32 0) (.int .u32 0) (.int .u64 0) (.string ⟨#[]⟩) (.string ⟨#[]⟩) (.string ⟨#[]⟩) (.string ⟨#[]⟩) (.string ⟨#[]⟩) (.string ⟨#[]⟩) (.string ⟨#[]⟩) (.string ⟨#[]⟩) (.string ⟨#[]⟩)) (.int .u32 0) (.string ⟨#[]⟩) (.string ⟨#[]⟩) (.string ⟨#[]⟩)) Tryz.underlying29 rfl (by kernel_rfl) Tryz.underlying112 rfl (by kernel_rfl)) rfl ?_
    exact ⟨rfl, only4 (only13 HO.out (.inr (Nat.le_refl _)) (.int .i64 0) (.int .u32 0) (.int .u32 0) (.int .u64 0) (.string ⟨#[]⟩) (.string ⟨#[]⟩) (.string ⟨#[]⟩) (.string ⟨#[]⟩) (.string ⟨#[]⟩) (.string ⟨#[]⟩) (.string ⟨#[]⟩) (.string ⟨#[]⟩) (.string ⟨#[]⟩)) (.inr (Nat.le_succ _)) (.int .u32 0) (.string ⟨#[]⟩) (.string ⟨#[]⟩) (.string ⟨#[]⟩)⟩
  | true =>
    rw [h1, Bool.true_and] at hb
    rw [h1] at KT
    rw [hb] at KP
    clear hb h1
    go_enter Tryz.func58, Tryz.ntmps58
    go_upto_region 1 with fail
    generalize ((w.alloc (.cells #[.int .i64 0, .int .u32 0, .int .u32 0, .int .u64 0, .string ⟨#[]⟩, .string ⟨#[]⟩, .string ⟨#[]⟩, .string ⟨#[]⟩, .string ⟨#[]⟩, .string ⟨#[]⟩, .string ⟨#[]⟩, .string ⟨#[]⟩, .string ⟨#[]⟩] 29)).alloc (.cells #[.int .u32 0, .string ⟨#[]⟩, .string ⟨#[]⟩, .string ⟨#[]⟩] 112)) = v0 at *
    obtain ⟨q0, q1, q2, q3, q4, q5, q6, q7, q8, q9, q10, q11, q12⟩ := cells13 HR1.out; have qf := HR1.out.frozen; obtain ⟨z0, z1, z2, z3⟩ := cells4 HR2.out; have zf := HR2.out.frozen
    go_wp2_with (first
      | (go_at_call 123; refine (KT.out _ _ rfl).mono ?_; rintro e wt ⟨rfl, ho⟩; replace HR1 := hon HR1 ho; replace HR2 := hon HR2 ho; replace HO := htr HO ho; clear ho; (first | (clear q0 q1 q2 q3 q4 q5 q6 q7 q8 q9 q10 q11 q12 qf z0 z1 z2 z3 zf) | skip); obtain ⟨q0, q1, q2, q3, q4, q5, q6, q7, q8, q9, q10, q11, q12⟩ := cells13 HR1.out; have qf := HR1.out.frozen; obtain ⟨z0, z1, z2, z3⟩ := cells4 HR2.out; have zf := HR2.out.frozen)
      | (go_at_call 124; refine (KP.out _ _ rfl).mono ?_; rintro e wp ⟨rfl, ho⟩; replace HR1 := hon HR1 ho; replace HR2 := hon HR2 ho; replace HO := htr HO ho; clear ho; (first | (clear q0 q1 q2 q3 q4 q5 q6 q7 q8 q9 q10 q11 q12 qf z0 z1 z2 z3 zf) | skip); obtain ⟨q0, q1, q2, q3, q4, q5, q6, q7, q8, q9, q10, q11, q12⟩ := cells13 HR1.out; have qf := HR1.out.frozen; obtain ⟨z0, z1, z2, z3⟩ := cells4 HR2.out; have zf := HR2.out.frozen))
    refine bodyPost_ret (results_two_cells rfl _ _ w.heap.size (w.heap.size + 1) 29 112 _ _ (0, 0) (0, 0) _ _ rfl rfl (nfar4 (set13 HR1.out (.int .i64 0) (.int .u32 0) (.int .u32 0) (.int .u64 0) (.string ⟨#[]⟩) (.string ⟨#[]⟩) (.string ⟨#[]⟩) (.string ⟨#[]⟩) (.string ⟨#[]⟩) (.string ⟨#[]⟩) (.string ⟨#[]⟩) (.string ⟨#[]⟩) (.string ⟨#[]⟩)) (Nat.ne_of_lt (Nat.lt_succ_self _)) (.int .u32 0) (.string ⟨#[]⟩) (.string ⟨#[]⟩) (.string ⟨#[]⟩)) (set4 (nfar13 HR2.out (Nat.ne_of_gt (Nat.lt_succ_self _)) (.int .i64 0) (.int .u32 0) (.int .u32 0) (.int .u64 0) (.string ⟨#[]⟩) (.string ⟨#[]⟩) (.string ⟨#[]⟩) (.string ⟨#[]⟩) (.string ⟨#[]⟩) (.string ⟨#[]⟩) (.string ⟨#[]⟩) (.string ⟨#[]⟩) (.string ⟨#[]⟩)) (.int .u32 0) (.string ⟨#[]⟩) (.string ⟨#[]⟩) (.string ⟨#[]⟩)) Tryz.underlying29 rfl (by kernel_rfl) Tryz.underlying112 rfl (by kernel_rfl)) rfl ?_
    exact ⟨rfl, only4 (only13 HO.out (.inr (Nat.le_refl _)) (.int .i64 0) (.int .u32 0) (.int .u32 0) (.int .u64 0) (.string ⟨#[]⟩) (.string ⟨#[]⟩) (.string ⟨#[]⟩) (.string ⟨#[]⟩) (.string ⟨#[]⟩) (.string ⟨#[]⟩) (.string ⟨#[]⟩) (.string ⟨#[]⟩) (.string ⟨#[]⟩)) (.inr (Nat.le_succ _)) (.int .u32 0) (.string ⟨#[]⟩) (.string ⟨#[]⟩) (.string ⟨#[]⟩)⟩
end
section
open Go.RowKit Go.Deep

theorem num_two : numberedV 2 = true := by decide
theorem fits_two : fitsV 2 0 = true := by decide
theorem allow_two (n : Nat) (h : n ≤ 4294967295) : allowedV 2 n = true := by unfold allowedV; rw [if_pos rfl]; exact decide_eq_true (by omega)

set_option maxRecDepth 100000 in
set_option maxHeartbeats 6400000 in
theorem make_atom (n : Nat) (hn : n ≤ 4294967295) (w : World) (htab : Tab w) :
    Calls Tryz.prog 122 #[.int .i64 2, .int .u64 n, .slice none 0 0, .slice none 0 0] w (StrPost (97 :: Lib.decDigits n) w) := by
  have hdl := dec_len n (by omega)
  obtain ⟨P, hP⟩ : ∃ P : ByteArray, P = ⟨(97 :: Lib.decDigits n).toArray⟩ := ⟨_, rfl⟩
  have hPs : P.size ≤ 21 := by
    rw [hP]
    show (97 :: Lib.decDigits n).toArray.size ≤ 21
    simp; omega
  have hPI : ¬ (65536 : Int) < P.size := by omega
  have HT := hide htab
  have hal := allow_two n hn
  have HJ := hide (fun W ht => (join_atom n (by omega) (.slice none 0 0) (.slice none 0 0) W ht).mono (R' := fun e w' => e = .returned (.string P) ∧ Only [] W w') fun e w' h => ⟨by rw [h.1, hP], h.2⟩)
  have HP := hide hP
  clear htab hP hPs hdl
  go_enter Tryz.func122, Tryz.ntmps122
  go_wp2_with (first
    | (go_at_call 184; refine (letter_atom _).mono ?_; rintro e w1 ⟨rfl, ho⟩; have HC := hide ho; clear ho)
    | (go_at_call 185; refine (numbered_any _ _).mono ?_; rintro e w2 ⟨rfl, rfl⟩; rw [num_two])
    | (go_at_call 186; refine (allowed_any _ _ _).mono ?_; rintro e w2 ⟨rfl, rfl⟩; rw [hal])
    | (go_at_call 187; refine (fits_any _ _ _).mono ?_; rintro e w2 ⟨rfl, rfl⟩; rw [fits_two]))
  refine wp_loop_rounds 1 ?_
  rw [rounds_succ]
  go_wp2_with fail
  refine wp_loop_rounds 1 ?_
  rw [rounds_succ]
  go_wp2_with (go_at_call 188; refine (HJ.out _ (HT.out.only HC.out (by simp))).mono ?_; rintro e w3 ⟨rfl, ho⟩; have HC := hide (HC.out.trans ho); clear ho)
  go_ret
  exact ⟨congrArg (fun x => Ending.returned (Value.string x)) HP.out, HC.out⟩
end
section
open Go.RowKit Go.Deep

abbrev srcC (a i m : Nat) : Array Value := #[.int .u32 (a : Int), .int .u32 (i : Int), .int .u64 (m : Int)]
abbrev SrcIs (w : World) (g a i m : Nat) : Prop := Blk w g 102 (srcC a i m)

theorem src_new (a i : Nat) (w : World) : Calls Tryz.prog 8 #[.int .u32 (a : Int), .int .u32 (i : Int)] w fun e w' => e = .returned (.pointer (some ⟨w.heap.size, 0, none⟩)) ∧ w' = w.alloc (.cells (srcC a i 0) 102) := by
  go_enter Tryz.func8, Tryz.ntmps8
  go_wp2
  go_ret
  exact ⟨rfl, rfl⟩

theorem take_more (w : World) (g o n : Nat) (hn : n < 4294967295) (h : w.cell? ⟨g, o, none⟩ = some (.int .u32 (n : Int))) (hf : w.frozen? ⟨g, o, none⟩ = false) :
    Calls Tryz.prog 121 #[.pointer (some ⟨g, o, none⟩)] w fun e w' => e = .returned (.tuple #[.int .u32 (n : Int), .bool true]) ∧ w' = w.setCell ⟨g, o, none⟩ (.int .u32 ((n + 1 : Nat) : Int)) := by
  have hne : ((n : Int) == 4294967295) = false := by rw [beq_eq_false_iff_ne]; omega
  have hw : IntKind.u32.wrap ((n : Int) + 1) = (n : Int) + 1 := by rw [IntKind.wrap_u32]; omega
  go_enter Tryz.func121, Tryz.ntmps121
  go_wp2
  go_ret2
  exact ⟨rfl, rfl⟩
end
section
open Go.RowKit Go.Deep

theorem secret_more (B g a i m : Nat) (w : World) (ha : a < 4294967295) (hS : SrcIs w g a i m) (hg : B ≤ g) (hB : B ≤ w.heap.size) (htab : ∀ W, Below B w W → Tab W) :
    Calls Tryz.prog 55 #[.pointer (some ⟨g, 0, none⟩)] w fun e w' => e = .returned (.tuple #[.string ⟨(97 :: Lib.decDigits a).toArray⟩, .int .i64 0]) ∧ SrcIs w' g (a + 1) i m ∧ Below B w w' ∧ Only [g] w w' := by
  have HT := hide (take_more w g 0 a ha (hS.cell 0) (hS.frozen 0))
  have HS := hide (show SrcIs (w.setCell ⟨g, 0, none⟩ (.int .u32 ((a + 1 : Nat) : Int))) g (a + 1) i m from hS.set_ 0 _)
  have HC := hide ((Below.refl B w).setCell (p := ⟨g, 0, none⟩) hg (.int .u32 ((a + 1 : Nat) : Int)))
  have HM := hide (fun W h => make_atom a (by omega) W (htab W h))
  have HB := hide hB
  have hw : IntKind.u64.wrap (a : Int) = a := by rw [IntKind.wrap_u64]; omega
  clear hS htab hB hg
  go_enter Tryz.func55, Tryz.ntmps55
  go_wp2_with (first
    | (go_at_call 121; refine HT.out.mono ?_; rintro e w1 ⟨rfl, rfl⟩)
    | (go_at_call 122; refine (HM.out _ HC.out).mono ?_; rintro e w2 ⟨rfl, ho⟩; have HD := hide ho; clear ho))
  go_ret2
  exact ⟨rfl, Blk.below (B := g + 1) HS.out (below_of_only HD.out HS.out.lt) (Nat.lt_succ_self g), HC.out.trans (below_of_only HD.out (Nat.le_trans HB.out HC.out.size)), ((Only.refl [g] w).setCell (p := ⟨g, 0, none⟩) (.inl (by simp)) _).trans (HD.out.mono (by simp))⟩
theorem index_more (B g a i m : Nat) (w : World) (hi : i < 4294967295) (hS : SrcIs w g a i m) (hg : B ≤ g) :
    Calls Tryz.prog 56 #[.pointer (some ⟨g, 0, none⟩)] w fun e w' => e = .returned (.tuple #[.int .u32 (i : Int), .int .i64 0]) ∧ SrcIs w' g a (i + 1) m ∧ Below B w w' ∧ Only [g] w w' := by
  have HT := hide (take_more w g 1 i hi (hS.cell 1) (hS.frozen 1))
  have HS := hide (show SrcIs (w.setCell ⟨g, 1, none⟩ (.int .u32 ((i + 1 : Nat) : Int))) g a (i + 1) m from hS.set_ 1 _)
  have HC := hide ((Below.refl B w).setCell (p := ⟨g, 1, none⟩) hg (.int .u32 ((i + 1 : Nat) : Int)))
  clear hS hg
  go_enter Tryz.func56, Tryz.ntmps56
  go_wp2_with (go_at_call 121; refine HT.out.mono ?_; rintro e w1 ⟨rfl, rfl⟩)
  go_ret2
  exact ⟨rfl, HS.out, HC.out, (Only.refl [g] w).setCell (p := ⟨g, 1, none⟩) (.inl (by simp)) _⟩
theorem stamp_ok (B g a i m t : Nat) (w : World) (ht : t ≤ 1125899906842624) (hm : m ≤ 2000000000000000) (hS : SrcIs w g a i m) (hg : B ≤ g) :
    Calls Tryz.prog 57 #[.pointer (some ⟨g, 0, none⟩), .int .i64 (t : Int)] w fun e w' => e = .returned (.tuple #[.int .u64 ((max m t : Nat) : Int), .int .i64 0]) ∧ SrcIs w' g a i (max m t + 1) ∧ Below B w w' ∧ Only [g] w w' := by
  have h1 : ¬ (t : Int) < 0 := by omega
  have h2 : ¬ (1125899906842624 : Int) < t := by omega
  have hw : IntKind.u64.wrap (t : Int) = t := by rw [IntKind.wrap_u64]; omega
  have hc := hS.cell 2
  have hf := hS.frozen 2
  simp only [srcC] at hc
  obtain ⟨u, hu⟩ : ∃ u, u = max m t := ⟨_, rfl⟩
  have hmx : (max (m : Int) (t : Int)) = (u : Int) := by omega
  have hw1 : IntKind.u64.wrap ((u : Int) + 1) = ((u + 1 : Nat) : Int) := by rw [IntKind.wrap_u64]; omega
  have HS := hide (show SrcIs (w.setCell ⟨g, 2, none⟩ (.int .u64 ((u + 1 : Nat) : Int))) g a i (u + 1) from hS.set_ 2 _)
  have HC := hide ((Below.refl B w).setCell (p := ⟨g, 2, none⟩) hg (.int .u64 ((u + 1 : Nat) : Int)))
  rw [← hu]
  clear hS hg hu
  go_enter Tryz.func57, Tryz.ntmps57
  go_wp2
  go_ret2
  exact ⟨rfl, HS.out, HC.out, (Only.refl [g] w).setCell (p := ⟨g, 2, none⟩) (.inl (by simp)) _⟩
end
end Go.Proofs.YtcokjoidpnfjhaaGreatDoor

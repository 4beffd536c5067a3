/-
  The law's question at the end (asked): by walking. Condition: the slots' block, the pairs in it, and the list of all pairs are known whole.
-/
import Derived.Test.YtjkgmkkhjpcngaaSo6
namespace Go.Proofs.Ytjkgmkkhjpcngaa
open Go.RowKit Go.Deep

def getO (gs : List PK) (m : Option Nat) : Option PK := m.bind fun i => gs[i]?
def enc : Option Nat → Int
  | none => -1
  | some i => i
theorem enc_none : enc none = -1 := rfl
theorem enc_some (i : Nat) : enc (some i) = (i : Int) := rfl
def ptrs (gs : List PK) : List Value := gs.map fun x => pv (some x.1)
def atI (mp mc mn : Option Nat) (k : Int) : Option Nat := if k = 1 then mp else if k = 2 then mc else if k = 3 then mn else none
theorem at3_enc (mp mc mn : Option Nat) (k : Int) : at3 (enc mp) (enc mc) (enc mn) k = enc (atI mp mc mn k) := by
  unfold at3 atI
  split
  · rfl
  · split
    · rfl
    · split <;> rfl
def ordK : Nat → Int
  | 0 => 2
  | 1 => 3
  | _ => 1
/-- What the first questions found. -/
def wantJ (gs : List PK) (mp mc mn : Option Nat) (lo : Int) : Nat → Option Nat × Int
  | 0 => (none, 0)
  | j + 1 => if (wantJ gs mp mc mn lo j).1.isSome then wantJ gs mp mc mn lo j else if hit (getO gs (atI mp mc mn (ordK j))) lo then (atI mp mc mn (ordK j), ordK j) else (none, 0)

structure SlSt (w : World) (S : Nat) (v : Value) (gs : List PK) (mp mc mn : Option Nat) : Prop where
  slots : SlotsIs w S (blkO (getO gs mp)) (blkO (getO gs mc)) (blkO (getO gs mn))
  all : Rd w [] v (ptrs gs)
  pairs : ∀ x ∈ gs, PairK w x.1 x.2.1 x.2.2 ∧ 0 ≤ x.2.2 ∧ x.2.2 ≤ 1000000
  ip : ∀ i, mp = some i → i < gs.length
  ic : ∀ i, mc = some i → i < gs.length
  inx : ∀ i, mn = some i → i < gs.length

section
variable {w w' : World} {S : Nat} {v : Value} {gs : List PK} {mp mc mn : Option Nat} {lo : Int}
theorem SlSt.only (h : SlSt w S v gs mp mc mn) (ho : Only [] w w') : SlSt w' S v gs mp mc mn :=
  ⟨Blk.only h.slots ho (by simp), h.all.only ho (by simp), fun x hx => ⟨(h.pairs x hx).1.only ho (by simp), (h.pairs x hx).2⟩, h.ip, h.ic, h.inx⟩
theorem SlSt.okO (h : SlSt w S v gs mp mc mn) (m : Option Nat) : OkO w (getO gs m) := by
  intro x hx
  cases m with
  | none => cases hx
  | some i => exact h.pairs x (List.mem_of_getElem? hx)
theorem SlSt.iat (h : SlSt w S v gs mp mc mn) (k : Int) : ∀ i, atI mp mc mn k = some i → i < gs.length := by
  intro i hi
  unfold atI at hi
  split at hi
  · exact h.ip i hi
  · split at hi
    · exact h.ic i hi
    · split at hi
      · exact h.inx i hi
      · cases hi
theorem want_none (j : Nat) : (wantJ gs mp mc mn lo j).1 = none → wantJ gs mp mc mn lo j = (none, 0) := by
  cases j with
  | zero => intro _; rfl
  | succ j =>
    intro h
    rw [wantJ] at h ⊢
    split
    · rename_i h1
      rw [if_pos h1] at h
      rw [h] at h1
      cases h1
    · rename_i h1
      rw [if_neg h1] at h
      split
      · rename_i h2
        rw [if_pos h2] at h
        simp only at h
        rw [h] at h2
        cases h2
      · rfl
theorem want_keep {j : Nat} (h : (wantJ gs mp mc mn lo j).1.isSome = true) : ∀ k, wantJ gs mp mc mn lo (j + k) = wantJ gs mp mc mn lo j
  | 0 => rfl
  | k + 1 => by
    show wantJ gs mp mc mn lo (j + k + 1) = _
    rw [wantJ, want_keep h k, if_pos h]
theorem want_lt (h : SlSt w S v gs mp mc mn) : ∀ j i, (wantJ gs mp mc mn lo j).1 = some i → i < gs.length
  | 0, i, hi => by cases hi
  | j + 1, i, hi => by
    rw [wantJ] at hi
    split at hi
    · exact want_lt h j i hi
    · split at hi
      · exact h.iat _ i hi
      · cases hi
theorem want_find : findV (getO gs mp) (getO gs mc) (getO gs mn) lo = (getO gs (wantJ gs mp mc mn lo 3).1, (wantJ gs mp mc mn lo 3).2) := by
  have e2 : atI mp mc mn (ordK 0) = mc := rfl
  have e3 : atI mp mc mn (ordK 1) = mn := rfl
  have e1 : atI mp mc mn (ordK 2) = mp := rfl
  have hs : ∀ m : Option Nat, hit (getO gs m) lo = true → m.isSome = true := by
    intro m hm
    cases m with
    | none => cases hm
    | some i => rfl
  unfold findV
  by_cases h1 : hit (getO gs mc) lo = true
  · have w1 : wantJ gs mp mc mn lo 1 = (mc, 2) := by
      rw [wantJ, e2, if_neg (by simp [wantJ]), if_pos h1]; rfl
    have w3 := want_keep (gs := gs) (mp := mp) (mc := mc) (mn := mn) (lo := lo) (j := 1) (by rw [w1]; exact hs _ h1) 2
    rw [show wantJ gs mp mc mn lo 3 = (mc, 2) from w3.trans w1, if_pos h1]
  · have w1 : wantJ gs mp mc mn lo 1 = (none, 0) := by
      rw [wantJ, e2, if_neg (by simp [wantJ]), if_neg h1]
    by_cases h2 : hit (getO gs mn) lo = true
    · have w2 : wantJ gs mp mc mn lo 2 = (mn, 3) := by
        rw [wantJ, e3, if_neg (by simp [w1]), if_pos h2]; rfl
      have w3 := want_keep (gs := gs) (mp := mp) (mc := mc) (mn := mn) (lo := lo) (j := 2) (by rw [w2]; exact hs _ h2) 1
      rw [show wantJ gs mp mc mn lo 3 = (mn, 3) from w3.trans w2, if_neg h1, if_pos h2]
    · have w2 : wantJ gs mp mc mn lo 2 = (none, 0) := by
        rw [wantJ, e3, if_neg (by simp [w1]), if_neg h2]
      by_cases h3 : hit (getO gs mp) lo = true
      · have w3 : wantJ gs mp mc mn lo 3 = (mp, 1) := by
          rw [wantJ, e1, if_neg (by simp [w2]), if_pos h3]; rfl
        rw [w3, if_neg h1, if_neg h2, if_pos h3]
      · have w3 : wantJ gs mp mc mn lo 3 = (none, 0) := by
          rw [wantJ, e1, if_neg (by simp [w2]), if_neg h3]
        rw [w3, if_neg h1, if_neg h2, if_neg h3]; rfl
theorem new_nonneg {p c n : Option PK} (hp : OkO w p) (hc : OkO w c) (hn : OkO w n) : ∀ a, newV p c n = some a → 0 ≤ a := by
  have key : ∀ (acc : Option Int) (o : Option PK), OkO w o → (∀ a, acc = some a → 0 ≤ a) → ∀ a, newU acc o = some a → 0 ≤ a := by
    intro acc o ho hacc a ha
    cases o with
    | none => exact hacc a ha
    | some x =>
      have hx := (ho x rfl).2.1
      cases acc with
      | none => injection ha with ha; omega
      | some b =>
        have hb := hacc b rfl
        simp only [newU] at ha
        split at ha
        · injection ha with ha; omega
        · injection ha with ha; omega
  exact key _ _ hn (key _ _ hc (key _ _ hp (fun a h => by cases h)))
end

def accV (p c n : Option PK) : Nat → Option Int
  | 0 => none
  | 1 => newU none p
  | 2 => newU (newU none p) c
  | _ => newV p c n
theorem acc_step (gs : List PK) (mp mc mn : Option Nat) (t : Nat) (ht : t < 3) : accV (getO gs mp) (getO gs mc) (getO gs mn) (t + 1) = newU (accV (getO gs mp) (getO gs mc) (getO gs mn) t) (getO gs (atI mp mc mn ((t : Int) + 1))) := by
  rcases (show t = 0 ∨ t = 1 ∨ t = 2 by omega) with rfl | rfl | rfl <;> rfl
theorem undrew0 {S : List Nat} {w w' : World} (h : Only S w.drew w') : Only S w w' := ⟨h.os, h.tape, h.output, h.size, h.block⟩
set_option maxRecDepth 100000 in
set_option maxHeartbeats 12800000 in
theorem asked_any (w : World) (S : Nat) (v : Value) (gs : List PK) (mp mc mn : Option Nat) (lo now : Int) (h : SlSt w S v gs mp mc mn) (hl : gs.length ≤ 1000) :
    Calls Try.prog 34 #[.pointer (some ⟨S, 0, none⟩), .agg #[.int .i64 (enc mp), .int .i64 (enc mc), .int .i64 (enc mn)], v, .int .u32 lo, .int .i64 now] w fun e w' => e = .returned (.bool true) ∧ Only [] w w' := by
  have HO := hide ((Only.refl [] w).alloc (.cells #[.int .i64 (enc mp), .int .i64 (enc mc), .int .i64 (enc mn)] 56))
  have HB := hide (Blk.new w 56 #[.int .i64 (enc mp), .int .i64 (enc mc), .int .i64 (enc mn)])
  have HH := hide (h.only HO.out)
  obtain ⟨A, cap, rfl, hcp, hcm⟩ := h.all.form
  have hlen : (ptrs gs).length = gs.length := by simp [ptrs]
  rw [hlen] at HH hcp ⊢
  clear h hlen
  go_enter Try.func34, Try.ntmps34
  obtain ⟨⟨wi, wk⟩, hW⟩ : ∃ r, wantJ gs mp mc mn lo 3 = r := ⟨_, rfl⟩
  have hF := want_find (gs := gs) (mp := mp) (mc := mc) (mn := mn) (lo := lo)
  rw [hW] at hF
  have HF := hide hF
  have HW := hide hW
  have HI := hide (fun (o : Nat) => HH.out.okO)
  clear hF hW
  obtain ⟨VF, hVF⟩ : ∃ VF, VF = pv (blkO (getO gs wi)) := ⟨_, rfl⟩
  have HVF := hide hVF
  clear hVF
  go_upto_block 0 with (go_at_call 35; refine (find_any _ S _ _ _ lo HH.out.slots (HH.out.okO mp) (HH.out.okO mc) (HH.out.okO mn)).mono ?_; rw [HF.out]; unfold FindPost; dsimp only; rw [← HVF.out]; rintro e w9 ⟨rfl, rfl⟩)
  have HB := hide (HB.out.alloc (.cells #[.int .i64 2, .int .i64 3, .int .i64 1] 3))
  have HR := hide (Blk.new (w.alloc (.cells #[.int .i64 (enc mp), .int .i64 (enc mc), .int .i64 (enc mn)] 56)) 3 #[.int .i64 2, .int .i64 3, .int .i64 1])
  simp only [World.size_alloc] at HR
  have HO := hide (HO.out.alloc (.cells #[.int .i64 2, .int .i64 3, .int .i64 1] 3))
  have HH := hide (HH.out.only ((Only.refl [] _).alloc (.cells #[.int .i64 2, .int .i64 3, .int .i64 1] 3)))
  obtain ⟨w1, hw1⟩ : ∃ w1, w1 = (w.alloc (.cells #[.int .i64 (enc mp), .int .i64 (enc mc), .int .i64 (enc mn)] 56)).alloc (.cells #[.int .i64 2, .int .i64 3, .int .i64 1] 3) := ⟨_, rfl⟩
  rw [← hw1] at HB HR HO HH ⊢
  obtain ⟨G, hG⟩ : ∃ G, G = w.heap.size := ⟨_, rfl⟩
  rw [← hG] at HB HR ⊢
  have HOW := HO
  clear hw1 hG HO
  go_cut [13, 14] (fun wt inn wr => wt = .int .i64 (enc wi) ∧ inn = .int .i64 wk ∧ Hid (Only [] w1 wr))
  case first =>
    go_wp2_with fail
    go_loopw [13, 14, 16] (fun wt inn i wr => ∃ j : Nat, j ≤ 3 ∧ i = .int .i64 j ∧ wt = .int .i64 (enc (wantJ gs mp mc mn lo j).1) ∧ inn = .int .i64 (wantJ gs mp mc mn lo j).2 ∧ Hid (Only [] w1 wr)) (fun _ _ i _ => 3 - (intOf i).toNat)
    case atStart => exact ⟨0, by omega, rfl, rfl, rfl, hide (Only.refl _ _)⟩
    case round =>
      obtain ⟨j, hj, rfl, rfl, rfl, HX⟩ := hrel
      have HH1 := hide (HH.out.only HX.out)
      have HB1 := hide (HB.out.only HX.out (by simp))
      have HR1 := hide (HR.out.only HX.out (by simp))
      have HCJ := hide (fun (W : World) (ho : Only [] w1 W) => (⟨(HB.out.only ho (by simp)).cell 0, (HB.out.only ho (by simp)).cell 1, (HB.out.only ho (by simp)).cell 2⟩ : W.cell? ⟨G, 0, none⟩ = some (.int .i64 (enc mp)) ∧ W.cell? ⟨G, 1, none⟩ = some (.int .i64 (enc mc)) ∧ W.cell? ⟨G, 2, none⟩ = some (.int .i64 (enc mn))))
      obtain ⟨c0, c1, c2⟩ := HCJ.out _ HX.out
      obtain ⟨⟨wx, wn⟩, hwx⟩ : ∃ r, wantJ gs mp mc mn lo j = r := ⟨_, rfl⟩
      rw [hwx]
      dsimp only
      cases wx with
      | some x =>
        have hk := want_keep (gs := gs) (mp := mp) (mc := mc) (mn := mn) (lo := lo) (j := j) (by rw [hwx]; rfl) (3 - j)
        rw [show j + (3 - j) = 3 by omega, HW.out, hwx] at hk
        injection hk with e1 e2
        simp only [enc_none, enc_some]
        have hx0 : ¬ (x : Int) < 0 := by omega
        have hE := hide (show Value.int .i64 (enc wi) = .int .i64 (x : Int) by rw [e1]; rfl)
        have hE2 := hide e2
        clear hwx e1 e2 c0 c1 c2
        by_cases hlt : j < 3
        · have hltI : (j : Int) < 3 := by omega
          go_wp2_with fail
          go_meet
          exact ⟨hE.out.symm, by rw [hE2.out], HX⟩
        · have hltI : ¬ (j : Int) < 3 := by omega
          go_wp2_with fail
          go_meet
          exact ⟨hE.out.symm, by rw [hE2.out], HX⟩
      | none =>
        have hw0 := want_none (gs := gs) (mp := mp) (mc := mc) (mn := mn) (lo := lo) j (by rw [hwx])
        rw [hwx] at hw0
        injection hw0 with _ e0
        subst e0
        simp only [enc_none, enc_some]
        by_cases hlt : j < 3
        · have hltI : (j : Int) < 3 := by omega
          obtain ⟨kk, hkk⟩ : ∃ kk, kk = ordK j := ⟨_, rfl⟩
          have HRJ := hide (fun (W : World) (ho : Only [] w1 W) => (by
            rw [(HR.out.only ho (by simp)).cell, hkk]
            rcases (show j = 0 ∨ j = 1 ∨ j = 2 by omega) with rfl | rfl | rfl <;> rfl : W.cell? ⟨G + 1, j, none⟩ = some (.int .i64 kk)))
          have hr := HRJ.out _ HX.out
          obtain ⟨ai, hai⟩ : ∃ ai, ai = atI mp mc mn kk := ⟨_, rfl⟩
          have HAT := hide (fun W => (refat_any W (enc mp) (enc mc) (enc mn) kk).mono (R' := fun e w' => e = .returned (.int .i64 (enc ai)) ∧ Only [] W w') fun e w' h => ⟨by rw [h.1, at3_enc, ← hai], h.2⟩)
          have hstep : wantJ gs mp mc mn lo (j + 1) = if hit (getO gs ai) lo then (ai, kk) else (none, 0) := by
            rw [wantJ, if_neg (by simp [hwx]), ← hkk, ← hai]
          have hai2 := HH.out.iat kk
          rw [← hai] at hai2
          clear hai hkk hwx
          cases ai with
          | none =>
            have HS := hide (show wantJ gs mp mc mn lo (j + 1) = (none, 0) by rw [hstep]; rfl)
            simp only [enc_none, enc_some] at HAT
            clear hstep hai2
            go_wp2_with fail
            go_region_held3 (fun w' => w'.cell? ⟨G, 0, none⟩ = some (.int .i64 (enc mp)) ∧ w'.cell? ⟨G, 1, none⟩ = some (.int .i64 (enc mc)) ∧ w'.cell? ⟨G, 2, none⟩ = some (.int .i64 (enc mn)) ∧ w'.cell? ⟨G + 1, j, none⟩ = some (.int .i64 kk)) (exact ⟨c0, c1, c2, hr⟩) (first
              | (go_at_call 33; refine (HAT.out _).mono ?_; rintro e w9 ⟨rfl, ho⟩; have HX := hide (HX.out.trans (undrew0 ho)); obtain ⟨c0, c1, c2⟩ := HCJ.out _ HX.out; have hr := HRJ.out _ HX.out; clear ho))
            all_goals
              go_wp2_with fail
              go_roundw
              case rel => exact ⟨j + 1, by omega, by go_num, by rw [HS.out]; rfl, by rw [HS.out], HX⟩
              case measure => simp [intOf]; omega
          | some x =>
            have hxl := hai2 x rfl
            obtain ⟨y, hy⟩ : ∃ y, gs[x]? = some y := ⟨_, List.getElem?_eq_getElem hxl⟩
            have hit1 : hit (getO gs (some x)) lo = decide (y.2.1 = lo) := by show hit (gs[x]?) lo = _; rw [hy]; rfl
            have hxI : (x : Int) < gs.length := by omega
            have HALL := hide (fun (W : World) (ho : Only [] w1 W) => (HH.out.only ho).all.at_.2.2.2 x (pv (some y.1)) (by simp [ptrs, hy]))
            have HLOC := hide (fun (W : World) (ho : Only [] w1 W) => local_any W y.1 y.2.1 y.2.2 ((HH.out.only ho).pairs y (List.mem_of_getElem? hy)).1)
            obtain ⟨g, o, rfl, _, _, hcx⟩ := HALL.out _ HX.out
            have HALC := hide (fun (W : World) (ho : Only [] w1 W) => (by
              obtain ⟨g', o', hA, _, _, hc⟩ := HALL.out W ho
              injection hA with hA
              injection hA with e1 e2
              subst e1 e2
              exact hc : W.cell? ⟨g, o + x, none⟩ = some (.pointer (some ⟨y.1, 0, none⟩))))
            clear hcx HALL
            simp only [enc_none, enc_some] at HAT
            by_cases hlo : y.2.1 = lo
            · have HS := hide (show wantJ gs mp mc mn lo (j + 1) = (some x, kk) by rw [hstep, hit1, decide_eq_true hlo]; rfl)
              have e1 : (y.2.1 == lo) = true := by rw [beq_iff_eq]; exact hlo
              clear hstep hai2 hit1 hlo hy
              go_wp2_with fail
              go_region_held3 (fun w' => w'.cell? ⟨G, 0, none⟩ = some (.int .i64 (enc mp)) ∧ w'.cell? ⟨G, 1, none⟩ = some (.int .i64 (enc mc)) ∧ w'.cell? ⟨G, 2, none⟩ = some (.int .i64 (enc mn)) ∧ w'.cell? ⟨G + 1, j, none⟩ = some (.int .i64 kk)) (exact ⟨c0, c1, c2, hr⟩) (first
                | (go_at_call 33; refine (HAT.out _).mono ?_; rintro e w9 ⟨rfl, ho⟩; have HX := hide (HX.out.trans (undrew0 ho)); obtain ⟨c0, c1, c2⟩ := HCJ.out _ HX.out; have hr := HRJ.out _ HX.out; have hcx := HALC.out _ HX.out; clear ho))
              all_goals
                go_wp2_with (go_at_call 52; refine (HLOC.out _ HX.out).mono ?_; rintro e w8 ⟨rfl, rfl⟩)
                go_quiet (fail)
                go_wp2_with fail
                go_roundw
                case rel => exact ⟨j + 1, by omega, by go_num, by rw [HS.out]; rfl, by rw [HS.out], hide (HX.out.drewN _)⟩
                case measure => simp [intOf]; omega
            · have HS := hide (show wantJ gs mp mc mn lo (j + 1) = (none, 0) by rw [hstep, hit1, decide_eq_false hlo]; rfl)
              have e1 : (y.2.1 == lo) = false := by rw [beq_eq_false_iff_ne]; exact hlo
              clear hstep hai2 hit1 hlo hy
              go_wp2_with fail
              go_region_held3 (fun w' => w'.cell? ⟨G, 0, none⟩ = some (.int .i64 (enc mp)) ∧ w'.cell? ⟨G, 1, none⟩ = some (.int .i64 (enc mc)) ∧ w'.cell? ⟨G, 2, none⟩ = some (.int .i64 (enc mn)) ∧ w'.cell? ⟨G + 1, j, none⟩ = some (.int .i64 kk)) (exact ⟨c0, c1, c2, hr⟩) (first
                | (go_at_call 33; refine (HAT.out _).mono ?_; rintro e w9 ⟨rfl, ho⟩; have HX := hide (HX.out.trans (undrew0 ho)); obtain ⟨c0, c1, c2⟩ := HCJ.out _ HX.out; have hr := HRJ.out _ HX.out; have hcx := HALC.out _ HX.out; clear ho))
              all_goals
                go_wp2_with (go_at_call 52; refine (HLOC.out _ HX.out).mono ?_; rintro e w8 ⟨rfl, rfl⟩)
                go_roundw
                case rel => exact ⟨j + 1, by omega, by go_num, by rw [HS.out]; rfl, by rw [HS.out], HX⟩
                case measure => simp [intOf]; omega
        · obtain rfl : j = 3 := by omega
          have hE := hide (HW.out.symm.trans hwx)
          clear hwx
          go_wp2_with fail
          go_meet
          have h1 := congrArg Prod.fst hE.out
          have h2 := congrArg Prod.snd hE.out
          exact ⟨by rw [show wi = none from h1]; rfl, by rw [show wk = 0 from h2], HX⟩
  case rest =>
    obtain ⟨rfl, rfl, HX⟩ := hcut
    have HCJ := hide (fun (W : World) (ho : Only [] w1 W) => (⟨(HB.out.only ho (by simp)).cell 0, (HB.out.only ho (by simp)).cell 1, (HB.out.only ho (by simp)).cell 2⟩ : W.cell? ⟨G, 0, none⟩ = some (.int .i64 (enc mp)) ∧ W.cell? ⟨G, 1, none⟩ = some (.int .i64 (enc mc)) ∧ W.cell? ⟨G, 2, none⟩ = some (.int .i64 (enc mn))))
    obtain ⟨nv, hnv⟩ : ∃ nv, newV (getO gs mp) (getO gs mc) (getO gs mn) = nv := ⟨_, rfl⟩
    have HNV := hide hnv
    have HNN := hide (fun a (ha : nv = some a) => new_nonneg (HH.out.okO mp) (HH.out.okO mc) (HH.out.okO mn) a (hnv.trans ha))
    have HNW := hide (fun (W : World) (ho : Only [] w1 W) => (newest_any W S _ _ _ (HH.out.only ho).slots ((HH.out.only ho).okO mp) ((HH.out.only ho).okO mc) ((HH.out.only ho).okO mn)).mono (R' := fun e w' => e = .returned (.tuple #[.int .i64 (nv.getD 0), .bool nv.isSome]) ∧ W = w') fun e w' h => by unfold NewestPost at h; rw [hnv] at h; exact h)
    clear hnv
    have HLT := hide (fun i (hi : wi = some i) => want_lt (lo := lo) HH.out 3 i (by rw [HW.out]; exact hi))
    rcases wi with _ | i
    all_goals
      first
        | (have hv : VF = .pointer none := HVF.out
           subst hv
           simp only [enc_none]
           go_upto_block 2 with (go_at_call 36; refine (HNW.out _ HX.out).mono ?_; rintro e w8 ⟨rfl, rfl⟩))
        | (have hxl := HLT.out i rfl
           obtain ⟨y, hy⟩ : ∃ y, gs[i]? = some y := ⟨_, List.getElem?_eq_getElem hxl⟩
           have hv : VF = .pointer (some ⟨y.1, 0, none⟩) := by
             rw [HVF.out]
             show pv (blkO (gs[i]?)) = _
             rw [hy]; rfl
           subst hv
           simp only [enc_some]
           have hiI : (i : Int) < gs.length := by omega
           have hi0 : ¬ (i : Int) < 0 := by omega
           obtain ⟨g, o, rfl, _, _, hcx⟩ := (HH.out.only HX.out).all.at_.2.2.2 i (pv (some y.1)) (by simp [ptrs, hy])
           simp only [pv] at hcx
           have hns := fun W => neq_same W y.1
           clear hy
           go_upto_block 2 with (go_at_call 36; refine (HNW.out _ HX.out).mono ?_; rintro e w8 ⟨rfl, rfl⟩)
           clear hns hiI hi0 hcx hxl)
      go_cut [20] (fun nw wr2 => nw = .int .i64 (nv.getD (-1)) ∧ Hid (Only [] w1 wr2))
      case first =>
        go_wp2_with fail
        go_loopw [20, 21] (fun nw kv wr2 => ∃ (t : Nat) (acc : Option Int), t ≤ 3 ∧ kv = .int .i64 ((t : Int) + 1) ∧ nw = .int .i64 (acc.getD (-1)) ∧ Hid (accV (getO gs mp) (getO gs mc) (getO gs mn) t = acc) ∧ Hid (Only [] w1 wr2)) (fun _ kv _ => 4 - (intOf kv).toNat)
        case atStart => exact ⟨0, none, by omega, rfl, rfl, hide rfl, HX⟩
        case round =>
          clear HX
          obtain ⟨t, acc, ht, rfl, rfl, hacc, HX⟩ := hrel
          obtain ⟨c0, c1, c2⟩ := HCJ.out _ HX.out
          by_cases hlt : t < 3
          · have hltI : (t : Int) + 1 ≤ 3 := by omega
            obtain ⟨ai, hai⟩ : ∃ ai, ai = atI mp mc mn ((t : Int) + 1) := ⟨_, rfl⟩
            have HAT := hide (fun W => (refat_any W (enc mp) (enc mc) (enc mn) ((t : Int) + 1)).mono (R' := fun e w' => e = .returned (.int .i64 (enc ai)) ∧ Only [] W w') fun e w' h => ⟨by rw [h.1, at3_enc, ← hai], h.2⟩)
            have hstep := acc_step gs mp mc mn t hlt
            rw [← hai, hacc.out] at hstep
            have hai2 := HH.out.iat ((t : Int) + 1)
            rw [← hai] at hai2
            clear hai
            rcases ai with _ | x
            · have HS := hide (show accV (getO gs mp) (getO gs mc) (getO gs mn) (t + 1) = acc from hstep)
              simp only [enc_none] at HAT
              clear hstep hai2
              go_wp2_with (go_at_call 33; refine (HAT.out _).mono ?_; rintro e w9 ⟨rfl, ho⟩; have HX := hide (HX.out.trans ho); obtain ⟨c0, c1, c2⟩ := HCJ.out _ HX.out; (first | (have hcx := HALC.out _ HX.out) | skip); clear ho)
              go_roundw
              case rel => exact ⟨t + 1, acc, by omega, by go_num, rfl, HS, HX⟩
              case measure => simp [intOf]; omega
            · have hxl := hai2 x rfl
              obtain ⟨y, hy⟩ : ∃ y, gs[x]? = some y := ⟨_, List.getElem?_eq_getElem hxl⟩
              have hxI : (x : Int) < gs.length := by omega
              have HALL := hide (fun (W : World) (ho : Only [] w1 W) => (HH.out.only ho).all.at_.2.2.2 x (pv (some y.1)) (by simp [ptrs, hy]))
              have HMAD := hide (fun (W : World) (ho : Only [] w1 W) => made_any W y.1 y.2.1 y.2.2 ((HH.out.only ho).pairs y (List.mem_of_getElem? hy)).1)
              have hm0 := (HH.out.pairs y (List.mem_of_getElem? hy)).2.1
              obtain ⟨g9, o9, hA9, _, _, hcx⟩ := HALL.out _ HX.out
              first | subst hA9 | (injection hA9 with hA9; injection hA9 with e1 e2; have e1 := e1.symm; have e2 := e2.symm; subst e1; subst e2)
              have HALC := hide (fun (W : World) (ho : Only [] w1 W) => (by
                obtain ⟨g', o', hA, _, _, hc⟩ := HALL.out W ho
                injection hA with hA
                injection hA with e1 e2
                subst e1 e2
                exact hc : W.cell? ⟨g9, o9 + x, none⟩ = some (.pointer (some ⟨y.1, 0, none⟩))))
              clear hcx HALL
              simp only [enc_some] at HAT
              have hstep2 : accV (getO gs mp) (getO gs mc) (getO gs mn) (t + 1) = newU acc (some y) := by rw [hstep]; show newU acc (gs[x]?) = _; rw [hy]
              by_cases hb : acc.getD (-1) < y.2.2
              · have HS := hide (show accV (getO gs mp) (getO gs mc) (getO gs mn) (t + 1) = some y.2.2 by
                  rw [hstep2]
                  cases acc with
                  | none => rfl
                  | some a => show (if a < y.2.2 then some y.2.2 else some a) = _; rw [if_pos (by simpa using hb)])
                clear hstep hstep2 hai2 hy hacc
                go_wp2_with (first | (go_at_call 33; refine (HAT.out _).mono ?_; rintro e w9 ⟨rfl, ho⟩; have HX := hide (HX.out.trans ho); obtain ⟨c0, c1, c2⟩ := HCJ.out _ HX.out; (first | (have hcx := HALC.out _ HX.out) | skip); clear ho) | (go_at_call 53; refine (HMAD.out _ HX.out).mono ?_; rintro e w8 ⟨rfl, rfl⟩))
                go_roundw
                case rel => exact ⟨t + 1, some y.2.2, by omega, by go_num, rfl, HS, HX⟩
                case measure => simp [intOf]; omega
              · have HS := hide (show accV (getO gs mp) (getO gs mc) (getO gs mn) (t + 1) = acc by
                  rw [hstep2]
                  cases acc with
                  | none => exact absurd (show (-1 : Int) < y.2.2 by omega) hb
                  | some a => show (if a < y.2.2 then some y.2.2 else some a) = _; rw [if_neg (by simpa using hb)])
                clear hstep hstep2 hai2 hy hacc
                go_wp2_with (first | (go_at_call 33; refine (HAT.out _).mono ?_; rintro e w9 ⟨rfl, ho⟩; have HX := hide (HX.out.trans ho); obtain ⟨c0, c1, c2⟩ := HCJ.out _ HX.out; (first | (have hcx := HALC.out _ HX.out) | skip); clear ho) | (go_at_call 53; refine (HMAD.out _ HX.out).mono ?_; rintro e w8 ⟨rfl, rfl⟩))
                go_roundw
                case rel => exact ⟨t + 1, acc, by omega, by go_num, rfl, HS, HX⟩
                case measure => simp [intOf]; omega
          · obtain rfl : t = 3 := by omega
            have hE := hide (hacc.out.symm.trans HNV.out)
            go_wp2_with fail
            go_meet
            exact ⟨by rw [hE.out], HX⟩
      case rest =>
        clear HX
        obtain ⟨rfl, HX⟩ := hcut
        obtain ⟨c0, c1, c2⟩ := HCJ.out _ HX.out
        have hfin : ∀ a, nv = some a → 0 ≤ a := HNN.out
        rcases mc with _ | i
        · have HUS := hide (fun (W : World) (ho : Only [] w1 W) => usable_none W S (blkO (getO gs mp)) (blkO (getO gs mn)) now (HH.out.only ho).slots)
          simp only [enc_none] at c1
          rcases nv with _ | a
          · simp only [Option.getD_none, Option.isSome_none]
            go_wp2_with (go_at_call 37; refine (HUS.out _ HX.out).mono ?_; rintro e w8 ⟨rfl, rfl⟩)
            go_ret
            exact ⟨rfl, HOW.out.trans HX.out⟩
          · have ha := hfin a rfl
            simp only [Option.getD_some, Option.isSome_some]
            go_wp2_with (go_at_call 37; refine (HUS.out _ HX.out).mono ?_; rintro e w8 ⟨rfl, rfl⟩)
            go_ret
            exact ⟨rfl, HOW.out.trans HX.out⟩
        · have hxl := HH.out.ic i rfl
          obtain ⟨y, hy⟩ : ∃ y, gs[i]? = some y := ⟨_, List.getElem?_eq_getElem hxl⟩
          have hiI : (i : Int) < gs.length := by omega
          have hi0 : ¬ (i : Int) < 0 := by omega
          have hyp := HH.out.pairs y (List.mem_of_getElem? hy)
          obtain ⟨g9, o9, hA9, _, _, hcx⟩ := (HH.out.only HX.out).all.at_.2.2.2 i (pv (some y.1)) (by simp [ptrs, hy])
          first | subst hA9 | (injection hA9 with hA9; injection hA9 with e1 e2; have e1 := e1.symm; have e2 := e2.symm; subst e1; subst e2)
          simp only [pv] at hcx
          have hes := fun W => eql_same W y.1
          have hbl : blkO (getO gs (some i)) = some y.1 := by show blkO (gs[i]?) = _; rw [hy]; rfl
          obtain ⟨fv, hfv⟩ : ∃ fv, freshV now y.2.2 = fv := ⟨_, rfl⟩
          have HUS := hide (fun (W : World) (ho : Only [] w1 W) => (usable_some W S y.1 (blkO (getO gs mp)) (blkO (getO gs mn)) y.2.1 y.2.2 now (by have := (HH.out.only ho).slots; rw [hbl] at this; exact this) ((hyp.1).only ho (by simp)) hyp.2.1 hyp.2.2).mono (R' := fun e w' => e = .returned (.pointer (if fv then some ⟨y.1, 0, none⟩ else none)) ∧ W = w') fun e w' h => by rw [hfv] at h; exact h)
          have HFR := hide (fun (W : World) (ho : Only [] w1 W) => (pfresh_any W y.1 y.2.1 y.2.2 now ((hyp.1).only ho (by simp)) hyp.2.1 hyp.2.2).mono (R' := fun e w' => e = .returned (.bool fv) ∧ W = w') fun e w' h => by rw [hfv] at h; exact h)
          simp only [enc_some] at c1
          clear hy hyp hbl hfv hxl
          have hna : Hid (∀ a, nv = some a → 0 ≤ a) := hide hfin
          clear hfin
          cases fv
          all_goals
            simp only [if_true, if_false, Bool.false_eq_true] at HUS
            rcases nv with _ | a
            · simp only [Option.getD_none, Option.isSome_none]
              go_wp2_with (first
                | (go_at_call 37; refine (HUS.out _ HX.out).mono ?_; rintro e w8 ⟨rfl, rfl⟩)
                | (go_at_call 54; refine (HFR.out _ HX.out).mono ?_; rintro e w8 ⟨rfl, rfl⟩))
              go_ret
              exact ⟨rfl, HOW.out.trans HX.out⟩
            · have ha := hna.out a rfl
              simp only [Option.getD_some, Option.isSome_some]
              go_wp2_with (first
                | (go_at_call 37; refine (HUS.out _ HX.out).mono ?_; rintro e w8 ⟨rfl, rfl⟩)
                | (go_at_call 54; refine (HFR.out _ HX.out).mono ?_; rintro e w8 ⟨rfl, rfl⟩))
              go_ret
              exact ⟨rfl, HOW.out.trans HX.out⟩
end Go.Proofs.Ytjkgmkkhjpcngaa

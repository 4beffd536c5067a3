/-
  Walks and plain words for PairLimits (texts Tm6, Tm7). No condition beyond those that each theorem states.
-/
import Derived.Test.YtfipdjlalfpbnaaDoorP02
namespace Go.Proofs.YtfipdjlalfpbnaaDoor
section
open Go.RowKit Go.Deep

theorem take_ok (w : World) (g : Nat) (s : ByteArray) (p : Nat) (c : Int) (hb : At g s p w) (hs : s.size ≤ maxLen) (h : peekV s p c = true) :
    Calls Tryd.prog 99 #[.pointer (some ⟨g, 0, none⟩), .int .u8 c] w (fun e w' => e = .returned (.tuple #[]) ∧ At g s (p + 1) w' ∧ Only [g] w w') :=
  (take_any w g s p c hb hs).mono fun e w' hh => by rw [h] at hh; exact hh
theorem take_fault (w : World) (g : Nat) (s : ByteArray) (p : Nat) (c : Int) (hb : At g s p w) (hs : s.size ≤ maxLen) (h : peekV s p c = false) :
    Calls Tryd.prog 99 #[.pointer (some ⟨g, 0, none⟩), .int .u8 c] w (Fault [g] w) :=
  (take_any w g s p c hb hs).mono fun e w' hh => by rw [h] at hh; exact hh
theorem Parts.only {b g : Nat} {k : Int} {n : Nat} {bv : Value} {keep : Bool} {parts : List ByteArray} {w w1 w2 : World} (h : Parts b k n bv keep parts w w1) (ho : Only [g] w1 w2) (hg : g ≠ b) (hgl : g < w.heap.size) : Parts b k n bv keep parts w w2 := by
  obtain ⟨A, l, c, hB, hp⟩ := h
  refine ⟨A, l, c, hB.only ho (by simp [Ne.symm hg]), ?_⟩
  cases keep with
  | false => exact hp
  | true => exact own_only hp ho (by simp [hgl])
theorem Parts.drewN {b : Nat} {k : Int} {n : Nat} {bv : Value} {keep : Bool} {parts : List ByteArray} {w w1 : World} (h : Parts b k n bv keep parts w w1) (q : Nat) : Parts b k n bv keep parts w (w1.drewN q) := by
  obtain ⟨A, l, c, hB, hp⟩ := h
  refine ⟨A, l, c, hB.drewN q, ?_⟩
  cases keep with
  | false => exact hp
  | true => exact own_only hp ((Only.refl [] w1).drewN q) (by simp)

theorem parts_app {b : Nat} {k : Int} {n : Nat} {bv : Value} {A A1 : Option Addr} {l c c1 : Nat} {parts : List ByteArray} {part : ByteArray} {w w3 : World} (hB : Blk w3 b 108 #[.int .i64 k, .int .u64 n, bv, .slice A l c])
    (ho : w3.ownsRow w.heap.size 9 1 (.slice A1 (parts.length + 1) c1) (parts.length + 1) (strs (parts ++ [part]))) (hb : b < w.heap.size) : Parts b k n bv true (parts ++ [part]) w (w3.setCell ⟨b, 3, none⟩ (.slice A1 (parts.length + 1) c1)) := by
  refine ⟨A1, parts.length + 1, c1, hB.set_ 3 _, ?_⟩
  rw [if_pos rfl, List.length_append, List.length_singleton]
  exact own_only ho ((Only.refl [b] w3).setCell (p := ⟨b, 3, none⟩) (.inl (by simp)) _) (by simp [hb])
theorem parts_keep {b : Nat} {k : Int} {n : Nat} {bv : Value} {parts : List ByteArray} {part : ByteArray} {w w1 : World} (h : Parts b k n bv false parts w w1) : Parts b k n bv false (parts ++ [part]) w w1 := h

theorem frame78 (a : Act) (hs : a.tmps.size = 78) (hd : a.defers = []) : ∃ u : Nat → Value, a = ⟨#[u 0, u 1, u 2, u 3, u 4, u 5, u 6, u 7, u 8, u 9, u 10, u 11, u 12, u 13, u 14, u 15, u 16, u 17, u 18, u 19, u 20, u 21, u 22, u 23, u 24, u 25, u 26, u 27, u 28, u 29, u 30, u 31, u 32, u 33, u 34, u 35, u 36, u 37, u 38, u 39, u 40, u 41, u 42, u 43, u 44, u 45, u 46, u 47, u 48, u 49, u 50, u 51, u 52, u 53, u 54, u 55, u 56, u 57, u 58, u 59, u 60, u 61, u 62, u 63, u 64, u 65, u 66, u 67, u 68, u 69, u 70, u 71, u 72, u 73, u 74, u 75, u 76, u 77], []⟩ := ⟨fun i => a.tmps.getD i undef, act_frame 78 a hs hd⟩

def NextAt (w : World) (s : ByteArray) (f g b : Nat) (k : Int) (n : Nat) (bv : Value) (keep : Bool) (R : Option (Nd × Nat)) (a' : Act) (w' : World) : Prop :=
  ∃ (C : Int) (L : ByteArray) (f' p' : Nat) (parts : List ByteArray), (a'.tmps.size = 78 ∧ a'.defers = [] ∧ a'.tmps.getD 0 undef = .pointer (some ⟨g, 0, none⟩) ∧ a'.tmps.getD 1 undef = .pointer (some ⟨b, 0, none⟩) ∧ a'.tmps.getD 2 undef = .bool keep ∧ a'.tmps.getD 6 undef = .int .i64 C ∧ a'.tmps.getD 7 undef = .string L) ∧ C = parts.length ∧ L = parts.getLastD ByteArray.empty ∧ f' ≤ f ∧ 2 * (s.size - p') + 2 ≤ f' ∧ p' ≤ s.size ∧ parts.length ≤ p' ∧ rd s f' (some (k, n, parts)) p' = R ∧ At g s p' w' ∧ Parts b k n bv keep parts w w' ∧ Only [g, b] w w'
def DoneAt (w : World) (s : ByteArray) (g b : Nat) (k : Int) (n : Nat) (bv : Value) (keep : Bool) (R : Option (Nd × Nat)) (a' : Act) (w' : World) : Prop :=
  ∃ (C : Int) (L : ByteArray) (p' : Nat) (parts : List ByteArray), (a'.tmps.size = 78 ∧ a'.defers = [] ∧ a'.tmps.getD 0 undef = .pointer (some ⟨g, 0, none⟩) ∧ a'.tmps.getD 1 undef = .pointer (some ⟨b, 0, none⟩) ∧ a'.tmps.getD 2 undef = .bool keep ∧ a'.tmps.getD 6 undef = .int .i64 C ∧ a'.tmps.getD 7 undef = .string L) ∧ C = parts.length ∧ rdEnd s k n parts p' = R ∧ At g s p' w' ∧ Parts b k n bv keep parts w w' ∧ Only [g, b] w w'

set_option maxRecDepth 100000 in
set_option maxHeartbeats 12800000 in
theorem rest_any (s : ByteArray) (f : Nat) (IH : ∀ f', f' < f → TSaid s f') : RSaid s f := by
  intro w g b p k n bv keep hA hgb hB hp hs hf
  obtain ⟨i0, hi, hz0, hz1, hz2⟩ := info_parts (show (Tryd.prog.info? 9).map (fun i => (i.zero, i.size, i.bytes)) = some (some (.string ByteArray.empty), 1, 16) by kernel_rfl)
  obtain ⟨R, hR⟩ : ∃ R, R = (if peekV s p 41 = true then rdEnd s k n [] p else rd s f (some (k, n, [])) p) := ⟨_, rfl⟩
  rw [← hR]
  have HR0 := hide hR
  clear hR
  have HIH := hide IH
  have HA := hide hA
  have hgl : g < w.heap.size := hA.lt
  have hbl : b < w.heap.size := hB.lt
  have HP := hide (show Parts b k n bv keep [] w w from ⟨none, 0, 0, hB, by
    cases keep with
    | false => exact ⟨rfl, rfl, rfl⟩
    | true => exact World.ownsRow_nil w _ _ _⟩)
  have HO := hide (Only.refl [g, b] w)
  have HPE := hide (fun W h => peek_any W g s p 41 h (by unfold maxLen; omega))
  clear hA hB IH
  go_enter Tryd.func100, Tryd.ntmps100
  go_wp2_with fail
  refine wp_scope_two (DoneAt w s g b k n bv keep R) (NextAt w s f g b k n bv keep R) (fun _ w' => s.size + 2 - (intOf ((w'.cell? ⟨g, 1, none⟩).getD undef)).toNat) rfl rfl ?_ ?_ ?_
  · intro _ hfall
    have HF := hide hfall
    clear hfall
    cases hpk : peekV s p 41 with
    | true =>
      have HV := hide (show R = rdEnd s k n [] p by rw [HR0.out, hpk]; rfl)
      have HPK := hide hpk
      clear hpk
      go_wp2_with (go_at_call 107; refine (HPE.out _ HA.out).mono ?_; rintro e w1 ⟨rfl, nq, rfl⟩; rw [HPK.out])
      go_step3
      exact ⟨_, _, p, [], ⟨rfl, rfl, rfl, rfl, rfl, rfl, rfl⟩, rfl, HV.out.symm, HA.out.drewN _, HP.out.drewN _, HO.out.drewN _⟩
    | false =>
      have HV := hide (show R = rd s f (some (k, n, [])) p by rw [HR0.out, hpk]; rfl)
      have HPK := hide hpk
      clear hpk
      go_wp2_with (go_at_call 107; refine (HPE.out _ HA.out).mono ?_; rintro e w1 ⟨rfl, nq, rfl⟩; rw [HPK.out])
      go_step3
      rename_i hK
      refine hK _ _ ?_
      exact HF.out _ _ ⟨_, _, f, p, [], ⟨rfl, rfl, rfl, rfl, rfl, rfl, rfl⟩, rfl, rfl, Nat.le_refl _, hf, hp, Nat.zero_le _, HV.out.symm, HA.out.drewN _, HP.out.drewN _, HO.out.drewN _⟩
  · rintro a' w' ⟨C, L, p', parts, ⟨hsz, hdf, h0, h1, h2, h6, h7⟩, hC, he, hA', hP', hO'⟩
    obtain ⟨u, hu⟩ := frame78 a' hsz hdf
    subst hu
    have e0 : u 0 = .pointer (some ⟨g, 0, none⟩) := h0
    have e1 : u 1 = .pointer (some ⟨b, 0, none⟩) := h1
    have e2 : u 2 = .bool keep := h2
    have e6 : u 6 = .int .i64 C := h6
    have e7 : u 7 = .string L := h7
    rw [e0, e1, e2, e6, e7]
    clear h0 h1 h2 h6 h7 e0 e1 e2 e6 e7 hsz hdf
    have HA1 := hide hA'
    have HP1 := hide hP'
    have HO1 := hide hO'
    have HE := hide he
    have HCL := hide hC
    clear HA HP HO HPE HIH HR0 hA' hP' hO' he hC
    cases hpk : peekV s p' 41 with
    | false =>
      have HPK := hide hpk
      have HR := hide (show R = none by rw [← HE.out]; unfold rdEnd; rw [hpk]; rfl)
      clear hpk
      go_wp2_with (go_at_call 99; refine (take_fault _ g s p' 41 HA1.out (by unfold maxLen; omega) HPK.out).mono ?_; rintro e w5 ⟨rfl, ho5⟩)
      exact ⟨rfl, rest_no HR.out (HO1.out.trans (ho5.mono (by simp)))⟩
    | true =>
      have HPK := hide hpk
      cases hfit : fitsV k (parts).length with
      | false =>
        have HFIT := hide hfit
        have HR := hide (show R = none by rw [← HE.out]; unfold rdEnd; rw [hpk, hfit]; rfl)
        clear hpk hfit
        go_wp2_with (first
          | (go_at_call 99; refine (take_ok _ g s p' 41 HA1.out (by unfold maxLen; omega) HPK.out).mono ?_; rintro e w5 ⟨rfl, ha5, ho5⟩; have HA5 := hide ha5; have HO5 := hide (HO1.out.trans (ho5.mono (by simp))); have HP5 := hide (HP1.out.only ho5 hgb hgl); obtain ⟨A5, l5, c5, hB5, _⟩ := HP5.out; have e0 := hB5.cell 0; simp at e0; clear ha5 ho5 hB5)
          | (go_at_call 59; refine (fits_any k _ _).mono ?_; rintro e w6 ⟨rfl, rfl⟩; rw [HCL.out, HFIT.out]))
        exact ⟨rfl, rest_no HR.out HO5.out⟩
      | true =>
        have HFIT := hide hfit
        have HR := hide (show R = some ((k, n, [], parts), p' + 1) by rw [← HE.out]; unfold rdEnd; rw [hpk, hfit]; rfl)
        clear hpk hfit
        go_wp2_with (first
          | (go_at_call 99; refine (take_ok _ g s p' 41 HA1.out (by unfold maxLen; omega) HPK.out).mono ?_; rintro e w5 ⟨rfl, ha5, ho5⟩; have HA5 := hide ha5; have HO5 := hide (HO1.out.trans (ho5.mono (by simp))); have HP5 := hide (HP1.out.only ho5 hgb hgl); obtain ⟨A5, l5, c5, hB5, _⟩ := HP5.out; have e0 := hB5.cell 0; simp at e0; clear ha5 ho5 hB5)
          | (go_at_call 59; refine (fits_any k _ _).mono ?_; rintro e w6 ⟨rfl, rfl⟩; rw [HCL.out, HFIT.out]))
        simp only [jumps]
        refine bodyPost_end (results_none rfl _ _ _) rfl ?_
        exact rest_yes HR.out HA5.out HO5.out HP5.out
  · intro hdone
    have HDN := hide hdone
    clear hdone HPE HR0 HA HP HO
    rintro a' w' ⟨C, L, f', p', parts, ⟨hsz, hdf, h0, h1, h2, h6, h7⟩, hC, hL, hff, hfp, hpp, hpl, hrd, hA', hP', hO'⟩
    obtain ⟨u, hu⟩ := frame78 a' hsz hdf
    subst hu
    have e0 : u 0 = .pointer (some ⟨g, 0, none⟩) := h0
    have e1 : u 1 = .pointer (some ⟨b, 0, none⟩) := h1
    have e2 : u 2 = .bool keep := h2
    have e6 : u 6 = .int .i64 C := h6
    have e7 : u 7 = .string L := h7
    rw [e0, e1, e2, e6, e7]
    clear h0 h1 h2 h6 h7 e0 e1 e2 e6 e7 hsz hdf
    obtain ⟨f2, rfl⟩ : ∃ f2, f' = f2 + 1 := ⟨f' - 1, by omega⟩
    have HA1 := hide hA'
    have HP1 := hide hP'
    have HO1 := hide hO'
    have HCL := hide hC
    have HL := hide hL
    have HRD := hide hrd
    have HC := hide (HIH.out f2 (by omega) w' g p' false hA' hpp hs (by omega))
    have hq2 := rd_bd s f2 none p'
    rw [rd_some] at HRD
    have k0 := hA'.cell 0
    have k1 := hA'.cell 1
    simp at k0 k1
    have kk1 := k1
    clear HIH hA' hP' hO' hC hL hrd
    cases hr : rd s f2 none p' with
    | none =>
      rw [hr] at HC HRD
      have HR := hide HRD.out.symm
      clear hr hq2
      go_wp2_with (go_at_call 71; refine HC.out.mono ?_; rintro e w1 ⟨rfl, ho1⟩)
      exact ⟨rfl, rest_no HR.out (HO1.out.trans (ho1.mono (by simp)))⟩
    | some r =>
      obtain ⟨nd, q⟩ := r
      obtain ⟨hq1, hqs⟩ := hq2 _ _ hr
      rw [hr] at HC HRD
      simp only at HRD
      clear hr hq2
      obtain ⟨part, hpart⟩ : ∃ x, x = s.extract p' q := ⟨_, rfl⟩
      rw [← hpart] at HRD
      have hpe : s.extract p' q = part := hpart.symm
      clear hpart
      have hq1' : (p' : Int) ≤ q := by omega
      have hqs' : (q : Int) ≤ s.size := by omega
      have hcl : C ≤ 1000000 := by have := HCL.out; omega
      have hc0 : 0 ≤ C := by have := HCL.out; omega
      have HC1 := hide (show C = parts.length from HCL.out)
      by_cases hdh : k = 6 ∧ parts.length = 1 ∧ gtB (parts.getLastD ByteArray.empty) part = true
      · have HR := hide (show R = none by have h := HRD.out; rw [if_pos hdh] at h; exact h.symm)
        obtain ⟨h6, h1, hg⟩ := hdh
        have hk6 : (k == 6) = true := by simpa using h6
        have hC1 : (C == 1) = true := by rw [beq_iff_eq]; have := HC1.out; omega
        rw [← HL.out] at hg
        unfold gtB at hg
        clear h6 h1
        go_wp2_with (go_at_call 71; refine HC.out.mono ?_; rintro e w1 ⟨bv1, pv1, rfl, ha1, ho1, _, _⟩; have HA1 := hide ha1; have HO1 := hide (HO1.out.trans (ho1.mono (by simp))); have HP1 := hide (HP1.out.only ho1 hgb hgl); obtain ⟨A, l, c, hB1, hw1⟩ := HP1.out; have HB1 := hide hB1; have HW1 := hide hw1; have k0 := ha1.cell 0; have k1 := ha1.cell 1; have b0 := hB1.cell 0; have b3 := hB1.cell 3; have f3 := hB1.frozen 3; simp at k0 k1 b0 b3; clear ha1 ho1 hB1 hw1)
        go_quiet (fail)
        go_wp2_with fail
        exact ⟨rfl, rest_no HR.out (HO1.out.drewN _)⟩
      · have HE2 := hide (show (if peekV s q 44 = true then rd s f2 (some (k, n, parts ++ [part])) (q + 1) else rdEnd s k n (parts ++ [part]) q) = R by have h := HRD.out; rwa [if_neg hdh] at h)
        have hcs : (k == 6) = false ∨ ((k == 6) = true ∧ (C == 1) = false) ∨ ((k == 6) = true ∧ (C == 1) = true ∧ (!(Op.bytesLess L.toList part.toList || L.toList == part.toList)) = false) := by
          by_cases a : k = 6
          · have a' : (k == 6) = true := by simpa using a
            by_cases c : parts.length = 1
            · refine .inr (.inr ⟨a', by rw [beq_iff_eq]; have := HC1.out; omega, ?_⟩)
              have h : ¬ gtB L part = true := fun h => hdh ⟨a, c, by rw [← HL.out]; exact h⟩
              simpa [gtB] using h
            · exact .inr (.inl ⟨a', by rw [beq_eq_false_iff_ne]; have := HC1.out; omega⟩)
          · exact .inl (by simpa using a)
        clear hdh
        cases keep with
        | false =>
          rcases hcs with hk6 | ⟨hk6, hC1⟩ | ⟨hk6, hC1, hg⟩
          all_goals
            go_wp2_with (go_at_call 71; refine HC.out.mono ?_; rintro e w1 ⟨bv1, pv1, rfl, ha1, ho1, _, _⟩; have HA1 := hide ha1; have HO1 := hide (HO1.out.trans (ho1.mono (by simp))); have HP1 := hide (HP1.out.only ho1 hgb hgl); obtain ⟨A, l, c, hB1, hw1⟩ := HP1.out; have HB1 := hide hB1; have HW1 := hide hw1; have k0 := ha1.cell 0; have k1 := ha1.cell 1; have b0 := hB1.cell 0; have b3 := hB1.cell 3; have f3 := hB1.frozen 3; simp at k0 k1 b0 b3; clear ha1 ho1 hB1 hw1)
            go_quiet (fail)
            have HA3 := hide (HA1.out.drewN nq)
            have HO3 := hide (HO1.out.drewN nq)
            have HP3 := hide (parts_keep (part := part) (HP1.out.drewN nq))
            cases hpv : peekV s q 44 with
            | true =>
              have HPV := hide hpv
              have hlt := peek_lt hpv
              have HNX := hide (show rd s f2 (some (k, n, parts ++ [part])) (q + 1) = R by have h := HE2.out; rwa [hpv, if_pos rfl] at h)
              clear hpv
              go_wp2_with (go_at_call 107; refine (peek_any _ g s q 44 HA3.out (by unfold maxLen; omega)).mono ?_; rintro e w4 ⟨rfl, nq2, hw4⟩; have HA4 := hide (show At g s q w4 by rw [hw4]; exact HA3.out.drewN nq2); have HO4 := hide (show Only [g, b] w w4 by rw [hw4]; exact HO3.out.drewN nq2); have HP4 := hide (show Parts b k n bv _ (parts ++ [part]) w w4 by rw [hw4]; exact HP3.out.drewN nq2); have m1 := HA4.out.cell 1; have f1 := HA4.out.frozen 1; simp at m1; clear hw4; rw [HPV.out])
              (try go_step3)
              refine ⟨⟨_, _, f2, q + 1, parts ++ [part], ⟨rfl, rfl, rfl, rfl, rfl, rfl, rfl⟩, (by have := HC1.out; simp; omega), (by simp), (by omega), (by omega), (by omega), (by simp; omega), HNX.out, HA4.out.set_ 1 _, HP4.out.only ((Only.refl [g] _).setCell (p := ⟨g, 1, none⟩) (.inl (by simp)) _) hgb hgl, HO4.out.setCell (p := ⟨g, 1, none⟩) (.inl (by simp)) _⟩, ?_⟩
              have hm := World.cell?_setCell_same w4 ⟨g, 1, none⟩ (.int .i64 ((q : Int) + 1)) m1
              simp [intOf, two', hm, kk1]
              omega
            | false =>
              have HPV := hide hpv
              have HNX := hide (show rdEnd s k n (parts ++ [part]) q = R by have h := HE2.out; rwa [hpv, if_neg (by simp)] at h)
              clear hpv
              go_wp2_with (go_at_call 107; refine (peek_any _ g s q 44 HA3.out (by unfold maxLen; omega)).mono ?_; rintro e w4 ⟨rfl, nq2, hw4⟩; have HA4 := hide (show At g s q w4 by rw [hw4]; exact HA3.out.drewN nq2); have HO4 := hide (show Only [g, b] w w4 by rw [hw4]; exact HO3.out.drewN nq2); have HP4 := hide (show Parts b k n bv _ (parts ++ [part]) w w4 by rw [hw4]; exact HP3.out.drewN nq2); have m1 := HA4.out.cell 1; have f1 := HA4.out.frozen 1; simp at m1; clear hw4; rw [HPV.out])
              go_step3
              rename_i hK
              refine hK _ _ ?_
              exact HDN.out _ _ _ ⟨_, _, q, parts ++ [part], ⟨rfl, rfl, rfl, rfl, rfl, rfl, rfl⟩, (by have := HC1.out; simp; omega), HNX.out, HA4.out, HP4.out, HO4.out⟩
        | true =>
          rcases hcs with hk6 | ⟨hk6, hC1⟩ | ⟨hk6, hC1, hg⟩
          all_goals
            go_wp2_with (go_at_call 71; refine HC.out.mono ?_; rintro e w1 ⟨bv1, pv1, rfl, ha1, ho1, _, _⟩; have HA1 := hide ha1; have HO1 := hide (HO1.out.trans (ho1.mono (by simp))); have HP1 := hide (HP1.out.only ho1 hgb hgl); obtain ⟨A, l, c, hB1, hw1⟩ := HP1.out; have HB1 := hide hB1; have HW1 := hide hw1; have k0 := ha1.cell 0; have k1 := ha1.cell 1; have b0 := hB1.cell 0; have b3 := hB1.cell 3; have f3 := hB1.frozen 3; simp at k0 k1 b0 b3; clear ha1 ho1 hB1 hw1)
            go_quiet (fail)
            have HOWN := hide (show ((w1.drewN nq).alloc (.cells #[.string part] 9)).ownsRow w.heap.size 9 1 (.slice A l c) parts.length (strs parts) from World.ownsRow.alloc (own_only HW1.out ((Only.refl [] w1).drewN nq) (by simp)) _)
            have HRN := hide (reads_one (w1.drewN nq) 9 (.string part) (w1.heap.size + 1) (Nat.lt_succ_self _))
            have HA2 := hide ((HA1.out.drewN nq).alloc (.cells #[.string part] 9))
            have HB2 := hide ((HB1.out.drewN nq).alloc (.cells #[.string part] 9))
            have HO2 := hide ((HO1.out.drewN nq).alloc (.cells #[.string part] 9))
            have HSZ := hide HO2.out.size
            cases hpv : peekV s q 44 with
            | true =>
              have HPV := hide hpv
              have hlt := peek_lt hpv
              have HNX := hide (show rd s f2 (some (k, n, parts ++ [part])) (q + 1) = R by have h := HE2.out; rwa [hpv, if_pos rfl] at h)
              clear hpv
              go_wp2_with (first
                | (at_builtin; refine wpList_append_any _ rfl (.tmp 49) (.tmp 51) 61 rfl w.heap.size 9 i0 (.string ByteArray.empty) 1 16 Tryd.underlying61 hi hz0 hz1 hz2 rfl (by decide) (.slice A l c) parts.length (strs parts) rfl HOWN.out _ _ 1 1 [.string part] rfl HRN.out (by simp [Value.oneCell']) (by have := HC1.out; unfold maxLen; omega) (by have := HC1.out; omega) HSZ.out ?_; intro v1 w3 hown1 hg1 _; rw [strs_snoc] at hown1; obtain ⟨A1, c1, rfl, _, _⟩ := own_form hown1; have hne : some b ≠ (Value.slice A l c).ownBlock := fun e => (by have := own_block_ge HOWN.out e.symm; omega); have hne2 : some g ≠ (Value.slice A l c).ownBlock := fun e => (by have := own_block_ge HOWN.out e.symm; omega); have hB3 := HB2.out.grown hg1 hne; have e3 := hB3.cell 3; have g3 := hB3.frozen 3; simp at e3; have HA3 := hide (show At g s q (w3.setCell ⟨b, 3, none⟩ (.slice A1 (parts.length + 1) c1)) from Blk.far (Blk.grown HA2.out hg1 hne2) hgb _); have HO3 := hide ((HO2.out.grown hg1 (fun x hx => .inr (own_block_ge HOWN.out hx))).setCell (p := ⟨b, 3, none⟩) (.inl (by simp)) (.slice A1 (parts.length + 1) c1)); have HP3 := hide (parts_app hB3 hown1 hbl); clear hown1 hg1 hB3 hne hne2)
                | (go_at_call 107; refine (peek_any _ g s q 44 HA3.out (by unfold maxLen; omega)).mono ?_; rintro e w4 ⟨rfl, nq2, hw4⟩; have HA4 := hide (show At g s q w4 by rw [hw4]; exact HA3.out.drewN nq2); have HO4 := hide (show Only [g, b] w w4 by rw [hw4]; exact HO3.out.drewN nq2); have HP4 := hide (show Parts b k n bv _ (parts ++ [part]) w w4 by rw [hw4]; exact HP3.out.drewN nq2); have m1 := HA4.out.cell 1; have f1 := HA4.out.frozen 1; simp at m1; clear hw4; rw [HPV.out]))
              (try go_step3)
              refine ⟨⟨_, _, f2, q + 1, parts ++ [part], ⟨rfl, rfl, rfl, rfl, rfl, rfl, rfl⟩, (by have := HC1.out; simp; omega), (by simp), (by omega), (by omega), (by omega), (by simp; omega), HNX.out, HA4.out.set_ 1 _, HP4.out.only ((Only.refl [g] _).setCell (p := ⟨g, 1, none⟩) (.inl (by simp)) _) hgb hgl, HO4.out.setCell (p := ⟨g, 1, none⟩) (.inl (by simp)) _⟩, ?_⟩
              have hm := World.cell?_setCell_same w4 ⟨g, 1, none⟩ (.int .i64 ((q : Int) + 1)) m1
              simp [intOf, two', hm, kk1]
              omega
            | false =>
              have HPV := hide hpv
              have HNX := hide (show rdEnd s k n (parts ++ [part]) q = R by have h := HE2.out; rwa [hpv, if_neg (by simp)] at h)
              clear hpv
              go_wp2_with (first
                | (at_builtin; refine wpList_append_any _ rfl (.tmp 49) (.tmp 51) 61 rfl w.heap.size 9 i0 (.string ByteArray.empty) 1 16 Tryd.underlying61 hi hz0 hz1 hz2 rfl (by decide) (.slice A l c) parts.length (strs parts) rfl HOWN.out _ _ 1 1 [.string part] rfl HRN.out (by simp [Value.oneCell']) (by have := HC1.out; unfold maxLen; omega) (by have := HC1.out; omega) HSZ.out ?_; intro v1 w3 hown1 hg1 _; rw [strs_snoc] at hown1; obtain ⟨A1, c1, rfl, _, _⟩ := own_form hown1; have hne : some b ≠ (Value.slice A l c).ownBlock := fun e => (by have := own_block_ge HOWN.out e.symm; omega); have hne2 : some g ≠ (Value.slice A l c).ownBlock := fun e => (by have := own_block_ge HOWN.out e.symm; omega); have hB3 := HB2.out.grown hg1 hne; have e3 := hB3.cell 3; have g3 := hB3.frozen 3; simp at e3; have HA3 := hide (show At g s q (w3.setCell ⟨b, 3, none⟩ (.slice A1 (parts.length + 1) c1)) from Blk.far (Blk.grown HA2.out hg1 hne2) hgb _); have HO3 := hide ((HO2.out.grown hg1 (fun x hx => .inr (own_block_ge HOWN.out hx))).setCell (p := ⟨b, 3, none⟩) (.inl (by simp)) (.slice A1 (parts.length + 1) c1)); have HP3 := hide (parts_app hB3 hown1 hbl); clear hown1 hg1 hB3 hne hne2)
                | (go_at_call 107; refine (peek_any _ g s q 44 HA3.out (by unfold maxLen; omega)).mono ?_; rintro e w4 ⟨rfl, nq2, hw4⟩; have HA4 := hide (show At g s q w4 by rw [hw4]; exact HA3.out.drewN nq2); have HO4 := hide (show Only [g, b] w w4 by rw [hw4]; exact HO3.out.drewN nq2); have HP4 := hide (show Parts b k n bv _ (parts ++ [part]) w w4 by rw [hw4]; exact HP3.out.drewN nq2); have m1 := HA4.out.cell 1; have f1 := HA4.out.frozen 1; simp at m1; clear hw4; rw [HPV.out]))
              go_step3
              rename_i hK
              refine hK _ _ ?_
              exact HDN.out _ _ _ ⟨_, _, q, parts ++ [part], ⟨rfl, rfl, rfl, rfl, rfl, rfl, rfl⟩, (by have := HC1.out; simp; omega), HNX.out, HA4.out, HP4.out, HO4.out⟩
end
section
open Go.RowKit Go.Deep

theorem read_no {g : Nat} {s : ByteArray} {keep : Bool} {r : Option (Nd × Nat)} {w w' : World} (h : r = none) (ho : Only [g] w w') : ReadPost g s keep r w (.panicked [{ v := .iface 133 (.agg #[]), recovered := false }]) w' := by
  subst h; exact ⟨rfl, ho⟩
/-- The answer stands in the result's block. -/
def fin (B : Nat) (k : Int) (n : Nat) (bv pv : Value) (w : World) : World := (((w.setCell ⟨B, 0, none⟩ (.int .i64 k)).setCell ⟨B, 1, none⟩ (.int .u64 n)).setCell ⟨B, 2, none⟩ bv).setCell ⟨B, 3, none⟩ pv
theorem fin_blk {B t : Nat} {k : Int} {n : Nat} {bv pv a b c d : Value} {w : World} (h : Blk w B t #[a, b, c, d]) : Blk (fin B k n bv pv w) B t #[.int .i64 k, .int .u64 n, bv, pv] := (((h.set_ 0 _).set_ 1 _).set_ 2 _).set_ 3 _
theorem fin_only (B : Nat) (k : Int) (n : Nat) (bv pv : Value) (w : World) : Only [B] w (fin B k n bv pv w) :=
  ((((Only.refl [B] w).setCell (p := ⟨B, 0, none⟩) (.inl (by simp)) _).setCell (p := ⟨B, 1, none⟩) (.inl (by simp)) _).setCell (p := ⟨B, 2, none⟩) (.inl (by simp)) _).setCell (p := ⟨B, 3, none⟩) (.inl (by simp)) _
theorem read_yes {g : Nat} {s : ByteArray} {keep : Bool} {r : Option (Nd × Nat)} {w w' : World} {k : Int} {n q : Nat} {bs : List UInt8} {parts : List ByteArray} {bv pv : Value} (h : r = some ((k, n, bs, parts), q)) (hg : g < w.heap.size) (ha : At g s q w') (ho : Only [g] w w')
    (hb : ∀ N : List Nat, (∀ x ∈ N, x ≤ w.heap.size) → Rd w' N bv (ints .u8 (byts bs))) (hp : keep = true → ∀ N : List Nat, (∀ x ∈ N, x ≤ w.heap.size) → Rd w' N pv (strs parts)) :
    ReadPost g s keep r w (.returned (.agg #[.int .i64 k, .int .u64 n, bv, pv])) (fin w.heap.size k n bv pv w') := by
  subst h
  have hf := fin_only w.heap.size k n bv pv w'
  refine ⟨_, _, rfl, Blk.only ha hf (by simp; omega), ?_, fun N hN => ?_, fun hk N hN => ?_⟩
  · exact (ho.mono (S' := [w.heap.size, g]) (by simp)).trans (hf.mono (by simp)) |>.mono (by simp)
  · exact ((hb (w.heap.size :: N) (by simp; exact fun x hx => Nat.le_of_lt (hN x hx))).only hf (by simp)).less (by simp; exact fun x hx => .inr hx)
  · exact ((hp hk (w.heap.size :: N) (by simp; exact fun x hx => Nat.le_of_lt (hN x hx))).only hf (by simp)).less (by simp; exact fun x hx => .inr hx)
theorem kind_range (c : Int) : 0 ≤ kindV c ∧ kindV c ≤ 11 := by unfold kindV; repeat' split <;> omega

theorem rdEnd_nd {s : ByteArray} {k : Int} {n : Nat} {parts : List ByteArray} {p q : Nat} {nd : Nd} (h : rdEnd s k n parts p = some (nd, q)) : nd.1 = k ∧ nd.2.1 = n ∧ nd.2.2.1 = [] := by
  unfold rdEnd at h
  split at h
  · split at h
    · simp only [Option.some.injEq, Prod.mk.injEq] at h
      rw [← h.1]
      exact ⟨rfl, rfl, rfl⟩
    · cases h
  · cases h
theorem rd_nd (s : ByteArray) : ∀ (f : Nat) (k : Int) (n : Nat) (parts : List ByteArray) (p q : Nat) (nd : Nd), rd s f (some (k, n, parts)) p = some (nd, q) → nd.1 = k ∧ nd.2.1 = n ∧ nd.2.2.1 = [] := by
  intro f
  induction f with
  | zero => intro k n parts p q nd h; simp [rd] at h
  | succ f ih =>
    intro k n parts p q nd h
    rw [rd_some] at h
    split at h
    · cases h
    · split at h
      · cases h
      · split at h
        · exact ih _ _ _ _ _ _ h
        · exact rdEnd_nd h
theorem rd_rest_nd {s : ByteArray} {f : Nat} {k : Int} {n p q : Nat} {nd : Nd} (h : (if peekV s p 41 = true then rdEnd s k n [] p else rd s f (some (k, n, [])) p) = some (nd, q)) : nd.1 = k ∧ nd.2.1 = n ∧ nd.2.2.1 = [] := by
  split at h
  · exact rdEnd_nd h
  · exact rd_nd _ _ _ _ _ _ _ _ h

theorem rd_term (s : ByteArray) (f p : Nat) (h : p < s.size) : rd s (f + 1) none p =
      if kindV s[p].toNat = 0 then none
      else if kindV s[p].toNat = 1 then some ((1, 0, [], []), p + 1)
      else if kindV s[p].toNat = 2 ∨ kindV s[p].toNat = 3 then
        match numK (kindV s[p].toNat) (s.extract (p + 1) (wend s (p + 1))).data.toList with
        | none => none
        | some n => some ((kindV s[p].toNat, n, [], []), wend s (p + 1))
      else if kindV s[p].toNat = 4 then
        if (hexR (s.extract (p + 1) (wend s (p + 1))).data.toList).2 = 0 then some ((4, 0, (hexR (s.extract (p + 1) (wend s (p + 1))).data.toList).1, []), wend s (p + 1)) else none
      else if peekV s (p + 1) 40 = false then none
      else if numberedV (kindV s[p].toNat) = true then
        match numK (kindV s[p].toNat) (s.extract (p + 2) (wend s (p + 2))).data.toList with
        | none => none
        | some n =>
          if peekV s (wend s (p + 2)) 44 = false then none
          else if peekV s (wend s (p + 2) + 1) 41 = true then rdEnd s (kindV s[p].toNat) n [] (wend s (p + 2) + 1)
          else rd s f (some (kindV s[p].toNat, n, [])) (wend s (p + 2) + 1)
      else if peekV s (p + 2) 41 = true then rdEnd s (kindV s[p].toNat) 0 [] (p + 2)
      else rd s f (some (kindV s[p].toNat, 0, [])) (p + 2) := by
  exact dif_pos h

set_option maxRecDepth 100000 in
set_option maxHeartbeats 12800000 in
theorem read_any (s : ByteArray) (f : Nat) (IH : RSaid s f) : TSaid s (f + 1) := by
  intro w g p keep hA hp hs hf
  obtain ⟨R, hR⟩ : ∃ R, R = rd s (f + 1) none p := ⟨_, rfl⟩
  rw [← hR]
  have HR0 := hide hR
  clear hR
  have HIH := hide IH
  have hgl : g < w.heap.size := hA.lt
  have HA := hide (show At g s p (w.alloc (.cells #[.int .i64 0, .int .u64 0, .slice none 0 0, .slice none 0 0] 108)) from hA.alloc _)
  have HB := hide (Blk.new w 108 #[.int .i64 0, .int .u64 0, .slice none 0 0, .slice none 0 0])
  have HO := hide ((Only.refl [g] w).alloc (.cells #[.int .i64 0, .int .u64 0, .slice none 0 0, .slice none 0 0] 108))
  have k0 := HA.out.cell 0
  have k1 := HA.out.cell 1
  simp at k0 k1
  clear hA IH
  by_cases hlt : p < s.size
  case neg =>
    have hge : (s.size : Int) ≤ p := by omega
    have hd : decide (s.size ≤ p) = true := decide_eq_true (by omega)
    have HR := hide (show R = none by rw [HR0.out, rd, dif_neg hlt])
    go_enter Tryd.func71, Tryd.ntmps71
    go_wp2_with fail
    go_quiet (fail)
    go_wp2_with fail
    exact ⟨rfl, read_no HR.out (HO.out.drewN _)⟩
  have hltI : ¬ (s.size : Int) ≤ p := by omega
  have hltI' : (p : Int) < s.size := by omega
  have hd : decide (s.size ≤ p) = false := decide_eq_false (by omega)
  rw [rd_term s f p hlt] at HR0
  obtain ⟨k, hk⟩ : ∃ k, k = kindV s[p].toNat := ⟨_, rfl⟩
  have hkr := kind_range s[p].toNat
  have HKO := hide (fun W => kindOf_any s[p].toNat W)
  rw [← hk] at hkr HKO HR0
  clear hk
  go_enter Tryd.func71, Tryd.ntmps71
  go_wp2_with fail
  go_quiet (fail)
  clear k0 k1
  have HA := hide (HA.out.drewN nq)
  have HB := hide (HB.out.drewN nq)
  have HO := hide (HO.out.drewN nq)
  have hwz : w.heap.size + 1 ≤ ((w.alloc (.cells #[.int .i64 0, .int .u64 0, .slice none 0 0, .slice none 0 0] 108)).drewN nq).heap.size := by simp
  generalize (w.alloc (.cells #[.int .i64 0, .int .u64 0, .slice none 0 0, .slice none 0 0] 108)).drewN nq = wA at *
  have k0 := Blk.cell HA.out 0
  have k1 := Blk.cell HA.out 1
  have z0 := Blk.cell (HA.out.alloc (.cells #[.int .i64 0, .int .u64 0, .slice none 0 0, .slice none 0 0] 108)) 0
  have z1 := Blk.cell (HA.out.alloc (.cells #[.int .i64 0, .int .u64 0, .slice none 0 0, .slice none 0 0] 108)) 1
  have y0 := Blk.cell (HA.out.alloc (.cells #[.int .i64 k, .int .u64 0, .slice none 0 0, .slice none 0 0] 108)) 0
  have y1 := Blk.cell (HA.out.alloc (.cells #[.int .i64 k, .int .u64 0, .slice none 0 0, .slice none 0 0] 108)) 1
  simp at k0 k1 z0 z1 y0 y1
  go_upto_region 3 with (fail)
  go_cut [5] (fun r w' => ∃ b, r = .pointer (some ⟨b, 0, none⟩) ∧ w.heap.size < b ∧ Hid (At g s p w') ∧ Hid (Blk w' w.heap.size 108 #[.int .i64 0, .int .u64 0, .slice none 0 0, .slice none 0 0]) ∧ Hid (Blk w' b 108 #[.int .i64 k, .int .u64 0, .slice none 0 0, .slice none 0 0]) ∧ Hid (Only [g] w w'))
  case first =>
    go_region_held3 (fun w' => w'.cell? ⟨g, 0, none⟩ = some (.string s) ∧ w'.cell? ⟨g, 1, none⟩ = some (.int .i64 p)) (first | exact ⟨k0, k1⟩ | exact ⟨z0, z1⟩ | exact ⟨y0, y1⟩)
      (first | (go_at_call 95; refine (HKO.out _).mono ?_; rintro e w' ⟨rfl, rfl⟩))
    all_goals
      go_wp2_with fail
      go_meet
      exact ⟨_, rfl, hwz, hide ((HA.out.alloc _).drew), hide ((HB.out.alloc _).drew), hide ((Blk.new wA 108 #[.int .i64 k, .int .u64 0, .slice none 0 0, .slice none 0 0]).drew), hide ((HO.out.alloc _).drew)⟩
  case rest =>
    clear k0 k1 z0 z1 y0 y1 HKO hd hltI HA HB HO hwz
    obtain ⟨b, rfl, hbl, HA, HB0, HB1, HO⟩ := hcut
    have hgb : g ≠ b := by omega
    have HML := hide (show s.size ≤ maxLen by unfold maxLen; omega)
    have HA2 := hide (show At g s (p + 1) (wc.setCell ⟨g, 1, none⟩ (.int .i64 ((p : Int) + 1))) from HA.out.set_ 1 _)
    have HB02 := hide (show Blk (wc.setCell ⟨g, 1, none⟩ (.int .i64 ((p : Int) + 1))) w.heap.size 108 _ from HB0.out.far (p := ⟨g, 1, none⟩) (by simp; omega) _)
    have HB12 := hide (show Blk (wc.setCell ⟨g, 1, none⟩ (.int .i64 ((p : Int) + 1))) b 108 _ from HB1.out.far (p := ⟨g, 1, none⟩) (Ne.symm hgb) _)
    have HO2 := hide (HO.out.setCell (p := ⟨g, 1, none⟩) (.inl (by simp)) (.int .i64 ((p : Int) + 1)))
    have k1 := HA.out.cell 1
    have f1 := HA.out.frozen 1
    have b0 := HB12.out.cell 0
    have b1 := HB12.out.cell 1
    have b2 := HB12.out.cell 2
    have b3 := HB12.out.cell 3
    have r0 := HB02.out.cell 0
    have r1 := HB02.out.cell 1
    have r2 := HB02.out.cell 2
    have r3 := HB02.out.cell 3
    have rf := HB02.out.frozen
    have bf := HB12.out.frozen
    simp at k1 b0 b1 b2 b3 r0 r1 r2 r3
    by_cases h0 : k = 0
    · have HR := hide (show R = none by rw [HR0.out, if_pos h0])
      have t0 : (k == 0) = true := by simpa using h0
      clear h0
      go_wp2_with fail
      exact ⟨rfl, read_no HR.out HO2.out⟩
    have t0 : (k == 0) = false := by simpa using h0
    rw [if_neg h0] at HR0
    clear h0
    by_cases h1 : k = 1
    · subst h1
      have HR := hide (show R = some ((1, 0, [], []), p + 1) by rw [HR0.out, if_pos rfl])
      go_wp2_with fail
      refine bodyPost_ret (results_cell_row rfl _ _ w.heap.size 108 _ (0, 0) _ rfl (fin_blk HB02.out) Tryd.underlying108 rfl (by kernel_rfl)) rfl ?_
      exact read_yes HR.out hgl HA2.out HO2.out (fun N _ => Rd.nil _ N) (fun _ N _ => Rd.nil _ N)
    have t1 : (k == 1) = false := by simpa using h1
    rw [if_neg h1] at HR0
    clear h1
    by_cases h23 : k = 2 ∨ k = 3
    · rw [if_pos h23] at HR0
      have HN := hide (number_any _ g s (p + 1) k HA2.out (by omega) hs)
      generalize numK k (s.extract (p + 1) (wend s (p + 1))).data.toList = nk at HN HR0
      have t2 : (k == 2) = true ∨ (k == 2) = false ∧ (k == 3) = true := by
        rcases h23 with h | h
        · exact .inl (by simpa using h)
        · exact .inr ⟨by rw [beq_eq_false_iff_ne]; omega, by simpa using h⟩
      cases nk with
      | none =>
        have HR := hide HR0.out
        simp only at HR
        clear h23
        rcases t2 with t2 | ⟨t2, t3⟩
        all_goals
          go_wp2_with (go_at_call 96; refine HN.out.mono ?_; rintro e w3 ⟨rfl, ho3⟩)
          exact ⟨rfl, read_no HR.out (HO2.out.trans ho3)⟩
      | some n =>
        have HR := hide HR0.out
        simp only at HR
        clear h23
        rcases t2 with t2 | ⟨t2, t3⟩
        all_goals
          go_wp2_with (go_at_call 96; refine HN.out.mono ?_; rintro e w3 ⟨rfl, ha3, ho3, hn3⟩; have HA3 := hide ha3; clear b0 b1 b2 b3 r0 r1 r2 r3 rf bf; have HB03 := hide (HB02.out.only ho3 (by simp; omega)); have HB13 := hide (HB12.out.only ho3 (by simp; omega)); have HO3 := hide (HO2.out.trans ho3); have b0 := HB13.out.cell 0; have b1 := HB13.out.cell 1; have b2 := HB13.out.cell 2; have b3 := HB13.out.cell 3; have r0 := HB03.out.cell 0; have r1 := HB03.out.cell 1; have r2 := HB03.out.cell 2; have r3 := HB03.out.cell 3; have rf := HB03.out.frozen; have bf := HB13.out.frozen; simp at b0 b1 b2 b3 r0 r1 r2 r3; clear ha3 ho3)
          have HB04 := hide (show Blk (w3.setCell ⟨b, 1, none⟩ (.int .u64 n)) w.heap.size 108 _ from HB03.out.far (p := ⟨b, 1, none⟩) (by simp; omega) _)
          refine bodyPost_ret (results_cell_row rfl _ _ w.heap.size 108 _ (0, 0) _ rfl (fin_blk HB04.out) Tryd.underlying108 rfl (by kernel_rfl)) rfl ?_
          exact read_yes HR.out hgl (Blk.far HA3.out hgb _) (HO3.out.setCell (p := ⟨b, 1, none⟩) (.inr (by simp; omega)) _) (fun N _ => Rd.nil _ N) (fun _ N _ => Rd.nil _ N)
    have t2 : (k == 2) = false := by rw [beq_eq_false_iff_ne]; exact fun h => h23 (.inl h)
    have t3 : (k == 3) = false := by rw [beq_eq_false_iff_ne]; exact fun h => h23 (.inr h)
    rw [if_neg h23] at HR0
    clear h23
    by_cases h4 : k = 4
    · subst h4
      rw [if_pos rfl] at HR0
      have HW := hide (word_any _ g s (p + 1) HA2.out (by omega) (by unfold maxLen; omega))
      have HX := hide (fun W => num_readhex W (s.extract (p + 1) (wend s (p + 1))) (by have := extract_size s (p + 1) (wend s (p + 1)); omega))
      generalize hexR (s.extract (p + 1) (wend s (p + 1))).data.toList = r at HR0 HX
      obtain ⟨bs, c⟩ := r
      simp only at HR0
      by_cases hc : c = 0
      · have HR := hide (show R = some ((4, 0, bs, []), wend s (p + 1)) by rw [HR0.out, if_pos hc])
        have tc : ((c : Int) != 0) = false := by rw [bne_eq_false_iff_eq]; omega
        clear hc
        go_wp2_with (first
          | (go_at_call 98; refine HW.out.mono ?_; rintro e w3 ⟨rfl, ha3, ho3⟩; have HA3 := hide ha3; clear b0 b1 b2 b3 r0 r1 r2 r3 rf bf; have HB03 := hide (HB02.out.only ho3 (by simp; omega)); have HB13 := hide (HB12.out.only ho3 (by simp; omega)); have HO3 := hide (HO2.out.trans ho3); have b0 := HB13.out.cell 0; have b1 := HB13.out.cell 1; have b2 := HB13.out.cell 2; have b3 := HB13.out.cell 3; have r0 := HB03.out.cell 0; have r1 := HB03.out.cell 1; have r2 := HB03.out.cell 2; have r3 := HB03.out.cell 3; have rf := HB03.out.frozen; have bf := HB13.out.frozen; simp at b0 b1 b2 b3 r0 r1 r2 r3; clear ha3 ho3)
          | (go_at_call 97; refine (HX.out _).mono ?_; rintro e w4 ⟨bv, rfl, ho4, hr4⟩; have HA4 := hide (show At g s (wend s (p + 1)) w4 from Blk.only HA3.out ho4 (by simp)); clear b0 b1 b2 b3 r0 r1 r2 r3 rf bf; have HB04 := hide (HB03.out.only ho4 (by simp)); have HB14 := hide (HB13.out.only ho4 (by simp)); have HO4 := hide (HO3.out.trans (ho4.mono (by simp))); have b0 := HB14.out.cell 0; have b1 := HB14.out.cell 1; have b2 := HB14.out.cell 2; have b3 := HB14.out.cell 3; have r0 := HB04.out.cell 0; have r1 := HB04.out.cell 1; have r2 := HB04.out.cell 2; have r3 := HB04.out.cell 3; have rf := HB04.out.frozen; have bf := HB14.out.frozen; simp at b0 b1 b2 b3 r0 r1 r2 r3; obtain ⟨A, cap, rfl, _, _⟩ := (hr4 [] (by simp)).formb; have HR4 := hide hr4; have hsz := HB13.out.lt; clear ho4 hr4))
        have HB05 := hide (show Blk (w4.setCell ⟨b, 2, none⟩ (.slice A bs.length cap)) w.heap.size 108 _ from HB04.out.far (p := ⟨b, 2, none⟩) (by simp; omega) _)
        refine bodyPost_ret (results_cell_row rfl _ _ w.heap.size 108 _ (0, 0) _ rfl (fin_blk HB05.out) Tryd.underlying108 rfl (by kernel_rfl)) rfl ?_
        refine read_yes HR.out hgl (Blk.far HA4.out hgb _) (HO4.out.setCell (p := ⟨b, 2, none⟩) (.inr (by simp; omega)) _) (fun N hN => ?_) (fun _ N _ => Rd.nil _ N)
        exact ((HR4.out (b :: N) (by intro x hx; simp at hx; rcases hx with rfl | hx; exact hsz; have := hN x hx; omega)).only ((Only.refl [b] _).setCell (p := ⟨b, 2, none⟩) (.inl (by simp)) _) (by simp)).less (by intro x hx; simp [hx])
      · have HR := hide (show R = none by rw [HR0.out, if_neg hc])
        have tc : ((c : Int) != 0) = true := by rw [bne_iff_ne]; omega
        clear hc
        go_wp2_with (first
          | (go_at_call 98; refine HW.out.mono ?_; rintro e w3 ⟨rfl, ha3, ho3⟩; have HA3 := hide ha3; clear b0 b1 b2 b3 r0 r1 r2 r3 rf bf; have HB03 := hide (HB02.out.only ho3 (by simp; omega)); have HB13 := hide (HB12.out.only ho3 (by simp; omega)); have HO3 := hide (HO2.out.trans ho3); have b0 := HB13.out.cell 0; have b1 := HB13.out.cell 1; have b2 := HB13.out.cell 2; have b3 := HB13.out.cell 3; have r0 := HB03.out.cell 0; have r1 := HB03.out.cell 1; have r2 := HB03.out.cell 2; have r3 := HB03.out.cell 3; have rf := HB03.out.frozen; have bf := HB13.out.frozen; simp at b0 b1 b2 b3 r0 r1 r2 r3; clear ha3 ho3)
          | (go_at_call 97; refine (HX.out _).mono ?_; rintro e w4 ⟨bv, rfl, ho4, hr4⟩; clear b0 b1 b2 b3 r0 r1 r2 r3 rf bf; have HB04 := hide (HB03.out.only ho4 (by simp)); have HB14 := hide (HB13.out.only ho4 (by simp)); have HO4 := hide (HO3.out.trans (ho4.mono (by simp))); have b0 := HB14.out.cell 0; have b1 := HB14.out.cell 1; have b2 := HB14.out.cell 2; have b3 := HB14.out.cell 3; have r0 := HB04.out.cell 0; have r1 := HB04.out.cell 1; have r2 := HB04.out.cell 2; have r3 := HB04.out.cell 3; have rf := HB04.out.frozen; have bf := HB14.out.frozen; simp at b0 b1 b2 b3 r0 r1 r2 r3; clear ho4 hr4))
        exact ⟨rfl, read_no HR.out HO4.out⟩
    have t4 : (k == 4) = false := by simpa using h4
    rw [if_neg h4] at HR0
    clear h4
    cases hp40 : peekV s (p + 1) 40 with
    | false =>
      have HPK := hide hp40
      have HR := hide (show R = none by rw [HR0.out, if_pos hp40])
      clear hp40
      go_wp2_with (go_at_call 99; refine (take_fault _ g s (p + 1) 40 HA2.out (by unfold maxLen; omega) HPK.out).mono ?_; rintro e w3 ⟨rfl, ho3⟩)
      exact ⟨rfl, read_no HR.out (HO2.out.trans ho3)⟩
    | true =>
      have HPK := hide hp40
      have hp1 := peek_lt hp40
      rw [if_neg (by rw [hp40]; simp)] at HR0
      clear hp40
      cases hnb : numberedV k with
      | false =>
        have HNB := hide hnb
        rw [if_neg (by rw [hnb]; simp)] at HR0
        clear hnb
        replace HR0 := HR0.out
        have HND := hide (fun (nd : Nd) (q : Nat) (h : (if peekV s (p + 2) 41 = true then rdEnd s k 0 [] (p + 2) else rd s f (some (k, 0, [])) (p + 2)) = some (nd, q)) => rd_rest_nd h)
        have HRS := hide (fun W h1 h2 => HIH.out W g b (p + 2) k 0 (.slice none 0 0) keep h1 hgb h2 (by omega) hs (by omega))
        generalize (if peekV s (p + 2) 41 = true then rdEnd s k 0 [] (p + 2) else rd s f (some (k, 0, [])) (p + 2)) = RR at HND HRS HR0
        cases RR with
        | none =>
          have HR := hide HR0
          clear HR0
          go_wp2_with (first
            | (go_at_call 99; (with_reducible refine (take_ok _ g s (p + 1) 40 HA2.out HML.out HPK.out).mono ?_); rintro e w3 ⟨rfl, ha3, ho3⟩; have HA3 := hide ha3; clear b0 b1 b2 b3 r0 r1 r2 r3 rf bf; have HB03 := hide (HB02.out.only ho3 (by simp; omega)); have HB13 := hide (HB12.out.only ho3 (by simp; omega)); have HO3 := hide (HO2.out.trans ho3); have b0 := HB13.out.cell 0; have b1 := HB13.out.cell 1; have b2 := HB13.out.cell 2; have b3 := HB13.out.cell 3; have r0 := HB03.out.cell 0; have r1 := HB03.out.cell 1; have r2 := HB03.out.cell 2; have r3 := HB03.out.cell 3; have rf := HB03.out.frozen; have bf := HB13.out.frozen; simp at b0 b1 b2 b3 r0 r1 r2 r3; clear ha3 ho3)
            | (go_at_call 57; refine (numbered_any _ _).mono ?_; rintro e w' ⟨rfl, rfl⟩; rw [HNB.out])
            | (go_at_call 100; refine (HRS.out _ HA3.out HB13.out).mono ?_; rintro e w7 ⟨rfl, ho7⟩))
          exact ⟨rfl, read_no HR.out (((HO3.out.mono (S' := [g, b]) (by simp)).trans ho7).mono (by simp; omega))⟩
        | some r =>
          obtain ⟨⟨k', n', bs, parts⟩, q⟩ := r
          obtain ⟨e1, e2, e3⟩ := HND.out _ _ rfl
          simp only at e1 e2 e3
          replace e1 := e1.symm
          replace e2 := e2.symm
          subst e1 e2 e3
          have HR := hide HR0
          clear HR0
          go_wp2_with (first
            | (go_at_call 99; (with_reducible refine (take_ok _ g s (p + 1) 40 HA2.out HML.out HPK.out).mono ?_); rintro e w3 ⟨rfl, ha3, ho3⟩; have HA3 := hide ha3; clear b0 b1 b2 b3 r0 r1 r2 r3 rf bf; have HB03 := hide (HB02.out.only ho3 (by simp; omega)); have HB13 := hide (HB12.out.only ho3 (by simp; omega)); have HO3 := hide (HO2.out.trans ho3); have b0 := HB13.out.cell 0; have b1 := HB13.out.cell 1; have b2 := HB13.out.cell 2; have b3 := HB13.out.cell 3; have r0 := HB03.out.cell 0; have r1 := HB03.out.cell 1; have r2 := HB03.out.cell 2; have r3 := HB03.out.cell 3; have rf := HB03.out.frozen; have bf := HB13.out.frozen; simp at b0 b1 b2 b3 r0 r1 r2 r3; clear ha3 ho3)
            | (go_at_call 57; refine (numbered_any _ _).mono ?_; rintro e w' ⟨rfl, rfl⟩; rw [HNB.out])
            | (go_at_call 100; refine (HRS.out _ HA3.out HB13.out).mono ?_; rintro e w7 ⟨rfl, ha7, ho7, A, l, c, hB7, hown⟩; have HA7 := hide ha7; clear b0 b1 b2 b3 r0 r1 r2 r3 rf bf; have HB07 := hide (HB03.out.only ho7 (by simp; omega)); have HB17 := hide hB7; have HO7 := hide (((HO3.out.mono (S' := [g, b]) (by simp)).trans ho7).mono (S' := [g]) (by simp; omega)); have HOW := hide hown; have HSZ := hide HB13.out.lt; have b0 := HB17.out.cell 0; have b1 := HB17.out.cell 1; have b2 := HB17.out.cell 2; have b3 := HB17.out.cell 3; have r0 := HB07.out.cell 0; have r1 := HB07.out.cell 1; have r2 := HB07.out.cell 2; have r3 := HB07.out.cell 3; have rf := HB07.out.frozen; have bf := HB17.out.frozen; simp at b0 b1 b2 b3 r0 r1 r2 r3; clear ha7 ho7 hB7 hown))
          refine bodyPost_ret (results_cell_row rfl _ _ w.heap.size 108 _ (0, 0) _ rfl (fin_blk HB07.out) Tryd.underlying108 rfl (by kernel_rfl)) rfl ?_
          refine read_yes HR.out hgl HA7.out HO7.out (fun N _ => Rd.nil _ N) (fun hk N hN => ?_)
          have h := HOW.out
          rw [if_pos hk] at h
          exact (Rd.of_own h (fun x hx => by have := hN x hx; have := HSZ.out; omega)).1
      | true =>
        have HNB := hide hnb
        rw [if_pos hnb] at HR0
        clear hnb
        have HN := hide (fun W h => number_any W g s (p + 2) k h (by omega) hs)
        have hwl := wend_le s (p + 2) (by omega)
        have hwg := wend_ge s (p + 2)
        generalize numK k (s.extract (p + 2) (wend s (p + 2))).data.toList = nk at HN HR0
        cases nk with
        | none =>
          have HR := hide HR0.out
          simp only at HR
          go_wp2_with (first
            | (go_at_call 99; (with_reducible refine (take_ok _ g s (p + 1) 40 HA2.out HML.out HPK.out).mono ?_); rintro e w3 ⟨rfl, ha3, ho3⟩; have HA3 := hide ha3; clear b0 b1 b2 b3 r0 r1 r2 r3 rf bf; have HB03 := hide (HB02.out.only ho3 (by simp; omega)); have HB13 := hide (HB12.out.only ho3 (by simp; omega)); have HO3 := hide (HO2.out.trans ho3); have b0 := HB13.out.cell 0; have b1 := HB13.out.cell 1; have b2 := HB13.out.cell 2; have b3 := HB13.out.cell 3; have r0 := HB03.out.cell 0; have r1 := HB03.out.cell 1; have r2 := HB03.out.cell 2; have r3 := HB03.out.cell 3; have rf := HB03.out.frozen; have bf := HB13.out.frozen; simp at b0 b1 b2 b3 r0 r1 r2 r3; clear ha3 ho3)
            | (go_at_call 57; refine (numbered_any _ _).mono ?_; rintro e w' ⟨rfl, rfl⟩; rw [HNB.out])
            | (go_at_call 96; refine (HN.out _ HA3.out).mono ?_; rintro e w4 ⟨rfl, ho4⟩))
          exact ⟨rfl, read_no HR.out (HO3.out.trans ho4)⟩
        | some n =>
          replace HR0 := HR0.out
          simp only at HR0
          obtain ⟨q2, hqe⟩ : ∃ q2, q2 = wend s (p + 2) := ⟨_, rfl⟩
          have HQ := hide hqe
          rw [← hqe] at HR0 hwl hwg
          clear hqe
          cases hpc : peekV s q2 44 with
          | false =>
            have HPC := hide hpc
            rw [if_pos hpc] at HR0
            have HR := hide HR0
            clear hpc HR0
            go_wp2_with (first
              | (go_at_call 99; (with_reducible refine (take_ok _ g s (p + 1) 40 HA2.out HML.out HPK.out).mono ?_); rintro e w3 ⟨rfl, ha3, ho3⟩; have HA3 := hide ha3; clear b0 b1 b2 b3 r0 r1 r2 r3 rf bf; have HB03 := hide (HB02.out.only ho3 (by simp; omega)); have HB13 := hide (HB12.out.only ho3 (by simp; omega)); have HO3 := hide (HO2.out.trans ho3); have b0 := HB13.out.cell 0; have b1 := HB13.out.cell 1; have b2 := HB13.out.cell 2; have b3 := HB13.out.cell 3; have r0 := HB03.out.cell 0; have r1 := HB03.out.cell 1; have r2 := HB03.out.cell 2; have r3 := HB03.out.cell 3; have rf := HB03.out.frozen; have bf := HB13.out.frozen; simp at b0 b1 b2 b3 r0 r1 r2 r3; clear ha3 ho3)
              | (go_at_call 57; refine (numbered_any _ _).mono ?_; rintro e w' ⟨rfl, rfl⟩; rw [HNB.out])
              | (go_at_call 96; refine (HN.out _ HA3.out).mono ?_; rintro e w4 ⟨rfl, ha4, ho4, hn4⟩; rw [← HQ.out] at ha4; clear b0 b1 b2 b3 r0 r1 r2 r3 rf bf; have HB05 := hide (show Blk (w4.setCell ⟨b, 1, none⟩ (.int .u64 n)) w.heap.size 108 _ from (HB03.out.only ho4 (by simp; omega)).far (p := ⟨b, 1, none⟩) (by simp; omega) _); have HB15 := hide (show Blk (w4.setCell ⟨b, 1, none⟩ (.int .u64 n)) b 108 #[.int .i64 k, .int .u64 n, .slice none 0 0, .slice none 0 0] from (HB13.out.only ho4 (by simp; omega)).set_ 1 _); have HA5 := hide (show At g s q2 (w4.setCell ⟨b, 1, none⟩ (.int .u64 n)) from Blk.far ha4 hgb _); have HO5 := hide ((HO3.out.trans ho4).setCell (p := ⟨b, 1, none⟩) (.inr (by simp; omega)) (.int .u64 n)); have j1 := (HB13.out.only ho4 (by simp; omega)).cell 1; have jf := (HB13.out.only ho4 (by simp; omega)).frozen 1; simp at j1; have b0 := HB15.out.cell 0; have b1 := HB15.out.cell 1; have b2 := HB15.out.cell 2; have b3 := HB15.out.cell 3; have r0 := HB05.out.cell 0; have r1 := HB05.out.cell 1; have r2 := HB05.out.cell 2; have r3 := HB05.out.cell 3; have rf := HB05.out.frozen; have bf := HB15.out.frozen; simp at b0 b1 b2 b3 r0 r1 r2 r3; clear ha4 ho4)
              | (go_at_call 99; (with_reducible refine (take_fault _ g s q2 44 HA5.out HML.out HPC.out).mono ?_); rintro e w6 ⟨rfl, ho6⟩))
            exact ⟨rfl, read_no HR.out (HO5.out.trans ho6)⟩
          | true =>
            have HPC := hide hpc
            rw [if_neg (by rw [hpc]; simp)] at HR0
            have hq2 := peek_lt hpc
            clear hpc
            have HND := hide (fun (nd : Nd) (q : Nat) (h : (if peekV s (q2 + 1) 41 = true then rdEnd s k n [] (q2 + 1) else rd s f (some (k, n, [])) (q2 + 1)) = some (nd, q)) => rd_rest_nd h)
            have HRS := hide (fun W h1 h2 => HIH.out W g b (q2 + 1) k n (.slice none 0 0) keep h1 hgb h2 (by omega) hs (by omega))
            generalize (if peekV s (q2 + 1) 41 = true then rdEnd s k n [] (q2 + 1) else rd s f (some (k, n, [])) (q2 + 1)) = RR at HND HRS HR0
            cases RR with
            | none =>
              have HR := hide HR0
              clear HR0
              go_wp2_with (first
                | (go_at_call 99; (with_reducible refine (take_ok _ g s (p + 1) 40 HA2.out HML.out HPK.out).mono ?_); rintro e w3 ⟨rfl, ha3, ho3⟩; have HA3 := hide ha3; clear b0 b1 b2 b3 r0 r1 r2 r3 rf bf; have HB03 := hide (HB02.out.only ho3 (by simp; omega)); have HB13 := hide (HB12.out.only ho3 (by simp; omega)); have HO3 := hide (HO2.out.trans ho3); have b0 := HB13.out.cell 0; have b1 := HB13.out.cell 1; have b2 := HB13.out.cell 2; have b3 := HB13.out.cell 3; have r0 := HB03.out.cell 0; have r1 := HB03.out.cell 1; have r2 := HB03.out.cell 2; have r3 := HB03.out.cell 3; have rf := HB03.out.frozen; have bf := HB13.out.frozen; simp at b0 b1 b2 b3 r0 r1 r2 r3; clear ha3 ho3)
                | (go_at_call 57; refine (numbered_any _ _).mono ?_; rintro e w' ⟨rfl, rfl⟩; rw [HNB.out])
                | (go_at_call 96; refine (HN.out _ HA3.out).mono ?_; rintro e w4 ⟨rfl, ha4, ho4, hn4⟩; rw [← HQ.out] at ha4; clear b0 b1 b2 b3 r0 r1 r2 r3 rf bf; have HB05 := hide (show Blk (w4.setCell ⟨b, 1, none⟩ (.int .u64 n)) w.heap.size 108 _ from (HB03.out.only ho4 (by simp; omega)).far (p := ⟨b, 1, none⟩) (by simp; omega) _); have HB15 := hide (show Blk (w4.setCell ⟨b, 1, none⟩ (.int .u64 n)) b 108 #[.int .i64 k, .int .u64 n, .slice none 0 0, .slice none 0 0] from (HB13.out.only ho4 (by simp; omega)).set_ 1 _); have HA5 := hide (show At g s q2 (w4.setCell ⟨b, 1, none⟩ (.int .u64 n)) from Blk.far ha4 hgb _); have HO5 := hide ((HO3.out.trans ho4).setCell (p := ⟨b, 1, none⟩) (.inr (by simp; omega)) (.int .u64 n)); have j1 := (HB13.out.only ho4 (by simp; omega)).cell 1; have jf := (HB13.out.only ho4 (by simp; omega)).frozen 1; simp at j1; have b0 := HB15.out.cell 0; have b1 := HB15.out.cell 1; have b2 := HB15.out.cell 2; have b3 := HB15.out.cell 3; have r0 := HB05.out.cell 0; have r1 := HB05.out.cell 1; have r2 := HB05.out.cell 2; have r3 := HB05.out.cell 3; have rf := HB05.out.frozen; have bf := HB15.out.frozen; simp at b0 b1 b2 b3 r0 r1 r2 r3; clear ha4 ho4)
                | (go_at_call 99; (with_reducible refine (take_ok _ g s q2 44 HA5.out HML.out HPC.out).mono ?_); rintro e w6 ⟨rfl, ha6, ho6⟩; have HA6 := hide ha6; clear b0 b1 b2 b3 r0 r1 r2 r3 rf bf; have HB06 := hide (HB05.out.only ho6 (by simp; omega)); have HB16 := hide (HB15.out.only ho6 (by simp; omega)); have HO6 := hide (HO5.out.trans ho6); have b0 := HB16.out.cell 0; have b1 := HB16.out.cell 1; have b2 := HB16.out.cell 2; have b3 := HB16.out.cell 3; have r0 := HB06.out.cell 0; have r1 := HB06.out.cell 1; have r2 := HB06.out.cell 2; have r3 := HB06.out.cell 3; have rf := HB06.out.frozen; have bf := HB16.out.frozen; simp at b0 b1 b2 b3 r0 r1 r2 r3; clear ha6 ho6)
                | (go_at_call 100; refine (HRS.out _ HA6.out HB16.out).mono ?_; rintro e w7 ⟨rfl, ho7⟩))
              exact ⟨rfl, read_no HR.out (((HO6.out.mono (S' := [g, b]) (by simp)).trans ho7).mono (by simp; omega))⟩
            | some r =>
              obtain ⟨⟨k', n', bs, parts⟩, q⟩ := r
              obtain ⟨e1, e2, e3⟩ := HND.out _ _ rfl
              simp only at e1 e2 e3
              replace e1 := e1.symm
              replace e2 := e2.symm
              subst e1 e2 e3
              have HR := hide HR0
              clear HR0
              go_wp2_with (first
                | (go_at_call 99; (with_reducible refine (take_ok _ g s (p + 1) 40 HA2.out HML.out HPK.out).mono ?_); rintro e w3 ⟨rfl, ha3, ho3⟩; have HA3 := hide ha3; clear b0 b1 b2 b3 r0 r1 r2 r3 rf bf; have HB03 := hide (HB02.out.only ho3 (by simp; omega)); have HB13 := hide (HB12.out.only ho3 (by simp; omega)); have HO3 := hide (HO2.out.trans ho3); have b0 := HB13.out.cell 0; have b1 := HB13.out.cell 1; have b2 := HB13.out.cell 2; have b3 := HB13.out.cell 3; have r0 := HB03.out.cell 0; have r1 := HB03.out.cell 1; have r2 := HB03.out.cell 2; have r3 := HB03.out.cell 3; have rf := HB03.out.frozen; have bf := HB13.out.frozen; simp at b0 b1 b2 b3 r0 r1 r2 r3; clear ha3 ho3)
                | (go_at_call 57; refine (numbered_any _ _).mono ?_; rintro e w' ⟨rfl, rfl⟩; rw [HNB.out])
                | (go_at_call 96; refine (HN.out _ HA3.out).mono ?_; rintro e w4 ⟨rfl, ha4, ho4, hn4⟩; rw [← HQ.out] at ha4; clear b0 b1 b2 b3 r0 r1 r2 r3 rf bf; have HB05 := hide (show Blk (w4.setCell ⟨b, 1, none⟩ (.int .u64 n)) w.heap.size 108 _ from (HB03.out.only ho4 (by simp; omega)).far (p := ⟨b, 1, none⟩) (by simp; omega) _); have HB15 := hide (show Blk (w4.setCell ⟨b, 1, none⟩ (.int .u64 n)) b 108 #[.int .i64 k, .int .u64 n, .slice none 0 0, .slice none 0 0] from (HB13.out.only ho4 (by simp; omega)).set_ 1 _); have HA5 := hide (show At g s q2 (w4.setCell ⟨b, 1, none⟩ (.int .u64 n)) from Blk.far ha4 hgb _); have HO5 := hide ((HO3.out.trans ho4).setCell (p := ⟨b, 1, none⟩) (.inr (by simp; omega)) (.int .u64 n)); have j1 := (HB13.out.only ho4 (by simp; omega)).cell 1; have jf := (HB13.out.only ho4 (by simp; omega)).frozen 1; simp at j1; have b0 := HB15.out.cell 0; have b1 := HB15.out.cell 1; have b2 := HB15.out.cell 2; have b3 := HB15.out.cell 3; have r0 := HB05.out.cell 0; have r1 := HB05.out.cell 1; have r2 := HB05.out.cell 2; have r3 := HB05.out.cell 3; have rf := HB05.out.frozen; have bf := HB15.out.frozen; simp at b0 b1 b2 b3 r0 r1 r2 r3; clear ha4 ho4)
                | (go_at_call 99; (with_reducible refine (take_ok _ g s q2 44 HA5.out HML.out HPC.out).mono ?_); rintro e w6 ⟨rfl, ha6, ho6⟩; have HA6 := hide ha6; clear b0 b1 b2 b3 r0 r1 r2 r3 rf bf; have HB06 := hide (HB05.out.only ho6 (by simp; omega)); have HB16 := hide (HB15.out.only ho6 (by simp; omega)); have HO6 := hide (HO5.out.trans ho6); have b0 := HB16.out.cell 0; have b1 := HB16.out.cell 1; have b2 := HB16.out.cell 2; have b3 := HB16.out.cell 3; have r0 := HB06.out.cell 0; have r1 := HB06.out.cell 1; have r2 := HB06.out.cell 2; have r3 := HB06.out.cell 3; have rf := HB06.out.frozen; have bf := HB16.out.frozen; simp at b0 b1 b2 b3 r0 r1 r2 r3; clear ha6 ho6)
                | (go_at_call 100; refine (HRS.out _ HA6.out HB16.out).mono ?_; rintro e w7 ⟨rfl, ha7, ho7, A, l, c, hB7, hown⟩; have HA7 := hide ha7; clear b0 b1 b2 b3 r0 r1 r2 r3 rf bf; have HB07 := hide (HB06.out.only ho7 (by simp; omega)); have HB17 := hide hB7; have HO7 := hide (((HO6.out.mono (S' := [g, b]) (by simp)).trans ho7).mono (S' := [g]) (by simp; omega)); have HOW := hide hown; have HSZ := hide HB16.out.lt; have b0 := HB17.out.cell 0; have b1 := HB17.out.cell 1; have b2 := HB17.out.cell 2; have b3 := HB17.out.cell 3; have r0 := HB07.out.cell 0; have r1 := HB07.out.cell 1; have r2 := HB07.out.cell 2; have r3 := HB07.out.cell 3; have rf := HB07.out.frozen; have bf := HB17.out.frozen; simp at b0 b1 b2 b3 r0 r1 r2 r3; clear ha7 ho7 hB7 hown))
              refine bodyPost_ret (results_cell_row rfl _ _ w.heap.size 108 _ (0, 0) _ rfl (fin_blk HB07.out) Tryd.underlying108 rfl (by kernel_rfl)) rfl ?_
              refine read_yes HR.out hgl HA7.out HO7.out (fun N _ => Rd.nil _ N) (fun hk N hN => ?_)
              have h := HOW.out
              rw [if_pos hk] at h
              exact (Rd.of_own h (fun x hx => by have := hN x hx; have := HSZ.out; omega)).1
end
end Go.Proofs.YtfipdjlalfpbnaaDoor

/-
  Walks and plain words (texts Tm6). No condition beyond those that each theorem states.
-/
import Derived.Test.YtcokjoidpnfjhaaGreatDoorA03
namespace Go.Proofs.YtcokjoidpnfjhaaGreatDoor
section
open Go.RowKit Go.Deep

theorem take_ok (w : World) (g : Nat) (s : ByteArray) (p : Nat) (c : Int) (hb : At g s p w) (hs : s.size ≤ maxLen) (h : peekV s p c = true) :
    Calls Tryz.prog 227 #[.pointer (some ⟨g, 0, none⟩), .int .u8 c] w (fun e w' => e = .returned (.tuple #[]) ∧ At g s (p + 1) w' ∧ Only [g] w w') :=
  (take_any w g s p c hb hs).mono fun e w' hh => by rw [h] at hh; exact hh
theorem take_fault (w : World) (g : Nat) (s : ByteArray) (p : Nat) (c : Int) (hb : At g s p w) (hs : s.size ≤ maxLen) (h : peekV s p c = false) :
    Calls Tryz.prog 227 #[.pointer (some ⟨g, 0, none⟩), .int .u8 c] w (Fault [g] w) :=
  (take_any w g s p c hb hs).mono fun e w' hh => by rw [h] at hh; exact hh
theorem Parts.only {b g : Nat} {k : Int} {n : Nat} {bv : Value} {keep : Bool} {parts : List ByteArray} {w w1 w2 : World} (h : Parts b k n bv keep parts w w1) (ho : Only [g] w1 w2) (hg : g ≠ b) (hgl : g < w.heap.size) : Parts b k n bv keep parts w w2 := by
  obtain ⟨A, l, c, hB, hp⟩ := h
  refine ⟨A, l, c, hB.only ho (by simp [Ne.symm hg]), ?_⟩
  cases keep with
  | false => exact hp
  | true => exact own_only hp ho (by simp [hgl])
theorem Parts.drewN {b : Nat} {k : Int} {n : Nat} {bv : Value} {keep : Bool} {parts : List ByteArray} {w w1 : World} (h : Parts b k n bv keep parts w w1) (q : Nat) : Parts b k n bv keep parts w (w1.drewN q) := by
  obtain ⟨A, l, c, hB, hp⟩ := h
  refine ⟨A, l, c, hB.drewN q, ?_⟩
  cases keep with
  | false => exact hp
  | true => exact own_only hp ((Only.refl [] w1).drewN q) (by simp)

theorem parts_app {b : Nat} {k : Int} {n : Nat} {bv : Value} {A A1 : Option Addr} {l c c1 : Nat} {parts : List ByteArray} {part : ByteArray} {w w3 : World} (hB : Blk w3 b 199 #[.int .i64 k, .int .u64 n, bv, .slice A l c])
    (ho : w3.ownsRow w.heap.size 9 1 (.slice A1 (parts.length + 1) c1) (parts.length + 1) (strs (parts ++ [part]))) (hb : b < w.heap.size) : Parts b k n bv true (parts ++ [part]) w (w3.setCell ⟨b, 3, none⟩ (.slice A1 (parts.length + 1) c1)) := by
  refine ⟨A1, parts.length + 1, c1, hB.set_ 3 _, ?_⟩
  rw [if_pos rfl, List.length_append, List.length_singleton]
  exact own_only ho ((Only.refl [b] w3).setCell (p := ⟨b, 3, none⟩) (.inl (by simp)) _) (by simp [hb])
theorem parts_keep {b : Nat} {k : Int} {n : Nat} {bv : Value} {parts : List ByteArray} {part : ByteArray} {w w1 : World} (h : Parts b k n bv false parts w w1) : Parts b k n bv false (parts ++ [part]) w w1 := h

theorem frame78 (a : Act) (hs : a.tmps.size = 78) (hd : a.defers = []) : ∃ u : Nat → Value, a = ⟨#[u 0, u 1, u 2, u 3, u 4, u 5, u 6, u 7, u 8, u 9, u 10, u 11, u 12, u 13, u 14, u 15, u 16, u 17, u 18, u 19, u 20, u 21, u 22, u 23, u 24, u 25, u 26, u 27, u 28, u 29, u 30, u 31, u 32, u 33, u 34, u 35, u 36, u 37, u 38, u 39, u 40, u 41, u 42, u 43, u 44, u 45, u 46, u 47, u 48, u 49, u 50, u 51, u 52, u 53, u 54, u 55, u 56, u 57, u 58, u 59, u 60, u 61, u 62, u 63, u 64, u 65, u 66, u 67, u 68, u 69, u 70, u 71, u 72, u 73, u 74, u 75, u 76, u 77], []⟩ := ⟨fun i => a.tmps.getD i undef, act_frame 78 a hs hd⟩

def NextAt (w : World) (s : ByteArray) (f g b : Nat) (k : Int) (n : Nat) (bv : Value) (keep : Bool) (R : Option (Nd × Nat)) (a' : Act) (w' : World) : Prop :=
  ∃ (C : Int) (L : ByteArray) (f' p' : Nat) (parts : List ByteArray), (a'.tmps.size = 78 ∧ a'.defers = [] ∧ a'.tmps.getD 0 undef = .pointer (some ⟨g, 0, none⟩) ∧ a'.tmps.getD 1 undef = .pointer (some ⟨b, 0, none⟩) ∧ a'.tmps.getD 2 undef = .bool keep ∧ a'.tmps.getD 6 undef = .int .i64 C ∧ a'.tmps.getD 7 undef = .string L) ∧ C = parts.length ∧ L = parts.getLastD ByteArray.empty ∧ f' ≤ f ∧ 2 * (s.size - p') + 2 ≤ f' ∧ p' ≤ s.size ∧ parts.length ≤ p' ∧ rd s f' (some (k, n, parts)) p' = R ∧ At g s p' w' ∧ Parts b k n bv keep parts w w' ∧ Only [g, b] w w'
def DoneAt (w : World) (s : ByteArray) (g b : Nat) (k : Int) (n : Nat) (bv : Value) (keep : Bool) (R : Option (Nd × Nat)) (a' : Act) (w' : World) : Prop :=
  ∃ (C : Int) (L : ByteArray) (p' : Nat) (parts : List ByteArray), (a'.tmps.size = 78 ∧ a'.defers = [] ∧ a'.tmps.getD 0 undef = .pointer (some ⟨g, 0, none⟩) ∧ a'.tmps.getD 1 undef = .pointer (some ⟨b, 0, none⟩) ∧ a'.tmps.getD 2 undef = .bool keep ∧ a'.tmps.getD 6 undef = .int .i64 C ∧ a'.tmps.getD 7 undef = .string L) ∧ C = parts.length ∧ rdEnd s k n parts p' = R ∧ At g s p' w' ∧ Parts b k n bv keep parts w w' ∧ Only [g, b] w w'

set_option maxRecDepth 100000 in
set_option maxHeartbeats 12800000 in
theorem rest_any (s : ByteArray) (f : Nat) (IH : ∀ f', f' < f → TSaid s f') : RSaid s f := by
  intro w g b p k n bv keep hA hgb hB hp hs hf
  obtain ⟨i0, hi, hz0, hz1, hz2⟩ := info_parts (show (Tryz.prog.info? 9).map (fun i => (i.zero, i.size, i.bytes)) = some (some (.string ByteArray.empty), 1, 16) by kernel_rfl)
  obtain ⟨R, hR⟩ : ∃ R, R = (if peekV s p 41 = true then rdEnd s k n [] p else rd s f (some (k, n, [])) p) := ⟨_, rfl⟩
  rw [← hR]
  have HR0 := hide hR
  clear hR
  have HIH := hide IH
  have HA := hide hA
  have hgl : g < w.heap.size := hA.lt
  have hbl : b < w.heap.size := hB.lt
  have HP := hide (show Parts b k n bv keep [] w w from ⟨none, 0, 0, hB, by
    cases keep with
    | false => exact ⟨rfl, rfl, rfl⟩
    | true => exact World.ownsRow_nil w _ _ _⟩)
  have HO := hide (Only.refl [g, b] w)
  have HPE := hide (fun W h => peek_any W g s p 41 h (by unfold maxLen; omega))
  clear hA hB IH
  go_enter Tryz.func228, Tryz.ntmps228
  go_wp2_with fail
  refine wp_scope_two (DoneAt w s g b k n bv keep R) (NextAt w s f g b k n bv keep R) (fun _ w' => s.size + 2 - (intOf ((w'.cell? ⟨g, 1, none⟩).getD undef)).toNat) rfl rfl ?_ ?_ ?_
  · intro _ hfall
    have HF := hide hfall
    clear hfall
    cases hpk : peekV s p 41 with
    | true =>
      have HV := hide (show R = rdEnd s k n [] p by rw [HR0.out, hpk]; rfl)
      have HPK := hide hpk
      clear hpk
      go_wp2_with (go_at_call 243; refine (HPE.out _ HA.out).mono ?_; rintro e w1 ⟨rfl, nq, rfl⟩; rw [HPK.out])
      go_step3
      exact ⟨_, _, p, [], ⟨rfl, rfl, rfl, rfl, rfl, rfl, rfl⟩, rfl, HV.out.symm, HA.out.drewN _, HP.out.drewN _, HO.out.drewN _⟩
    | false =>
      have HV := hide (show R = rd s f (some (k, n, [])) p by rw [HR0.out, hpk]; rfl)
      have HPK := hide hpk
      clear hpk
      go_wp2_with (go_at_call 243; refine (HPE.out _ HA.out).mono ?_; rintro e w1 ⟨rfl, nq, rfl⟩; rw [HPK.out])
      go_step3
      rename_i hK
      refine hK _ _ ?_
      exact HF.out _ _ ⟨_, _, f, p, [], ⟨rfl, rfl, rfl, rfl, rfl, rfl, rfl⟩, rfl, rfl, Nat.le_refl _, hf, hp, Nat.zero_le _, HV.out.symm, HA.out.drewN _, HP.out.drewN _, HO.out.drewN _⟩
  · rintro a' w' ⟨C, L, p', parts, ⟨hsz, hdf, h0, h1, h2, h6, h7⟩, hC, he, hA', hP', hO'⟩
    obtain ⟨u, hu⟩ := frame78 a' hsz hdf
    subst hu
    have e0 : u 0 = .pointer (some ⟨g, 0, none⟩) := h0
    have e1 : u 1 = .pointer (some ⟨b, 0, none⟩) := h1
    have e2 : u 2 = .bool keep := h2
    have e6 : u 6 = .int .i64 C := h6
    have e7 : u 7 = .string L := h7
    rw [e0, e1, e2, e6, e7]
    clear h0 h1 h2 h6 h7 e0 e1 e2 e6 e7 hsz hdf
    have HA1 := hide hA'
    have HP1 := hide hP'
    have HO1 := hide hO'
    have HE := hide he
    have HCL := hide hC
    clear HA HP HO HPE HIH HR0 hA' hP' hO' he hC
    cases hpk : peekV s p' 41 with
    | false =>
      have HPK := hide hpk
      have HR := hide (show R = none by rw [← HE.out]; unfold rdEnd; rw [hpk]; rfl)
      clear hpk
      go_wp2_with (go_at_call 227; refine (take_fault _ g s p' 41 HA1.out (by unfold maxLen; omega) HPK.out).mono ?_; rintro e w5 ⟨rfl, ho5⟩)
      exact ⟨rfl, rest_no HR.out (HO1.out.trans (ho5.mono (by simp)))⟩
    | true =>
      have HPK := hide hpk
      cases hfit : fitsV k (parts).length with
      | false =>
        have HFIT := hide hfit
        have HR := hide (show R = none by rw [← HE.out]; unfold rdEnd; rw [hpk, hfit]; rfl)
        clear hpk hfit
        go_wp2_with (first
          | (go_at_call 227; refine (take_ok _ g s p' 41 HA1.out (by unfold maxLen; omega) HPK.out).mono ?_; rintro e w5 ⟨rfl, ha5, ho5⟩; have HA5 := hide ha5; have HO5 := hide (HO1.out.trans (ho5.mono (by simp))); have HP5 := hide (HP1.out.only ho5 hgb hgl); obtain ⟨A5, l5, c5, hB5, _⟩ := HP5.out; have e0 := hB5.cell 0; simp at e0; clear ha5 ho5 hB5)
          | (go_at_call 187; refine (fits_any k _ _).mono ?_; rintro e w6 ⟨rfl, rfl⟩; rw [HCL.out, HFIT.out]))
        exact ⟨rfl, rest_no HR.out HO5.out⟩
      | true =>
        have HFIT := hide hfit
        have HR := hide (show R = some ((k, n, [], parts), p' + 1) by rw [← HE.out]; unfold rdEnd; rw [hpk, hfit]; rfl)
        clear hpk hfit
        go_wp2_with (first
          | (go_at_call 227; refine (take_ok _ g s p' 41 HA1.out (by unfold maxLen; omega) HPK.out).mono ?_; rintro e w5 ⟨rfl, ha5, ho5⟩; have HA5 := hide ha5; have HO5 := hide (HO1.out.trans (ho5.mono (by simp))); have HP5 := hide (HP1.out.only ho5 hgb hgl); obtain ⟨A5, l5, c5, hB5, _⟩ := HP5.out; have e0 := hB5.cell 0; simp at e0; clear ha5 ho5 hB5)
          | (go_at_call 187; refine (fits_any k _ _).mono ?_; rintro e w6 ⟨rfl, rfl⟩; rw [HCL.out, HFIT.out]))
        simp only [jumps]
        refine bodyPost_end (results_none rfl _ _ _) rfl ?_
        exact rest_yes HR.out HA5.out HO5.out HP5.out
  · intro hdone
    have HDN := hide hdone
    clear hdone HPE HR0 HA HP HO
    rintro a' w' ⟨C, L, f', p', parts, ⟨hsz, hdf, h0, h1, h2, h6, h7⟩, hC, hL, hff, hfp, hpp, hpl, hrd, hA', hP', hO'⟩
    obtain ⟨u, hu⟩ := frame78 a' hsz hdf
    subst hu
    have e0 : u 0 = .pointer (some ⟨g, 0, none⟩) := h0
    have e1 : u 1 = .pointer (some ⟨b, 0, none⟩) := h1
    have e2 : u 2 = .bool keep := h2
    have e6 : u 6 = .int .i64 C := h6
    have e7 : u 7 = .string L := h7
    rw [e0, e1, e2, e6, e7]
    clear h0 h1 h2 h6 h7 e0 e1 e2 e6 e7 hsz hdf
    obtain ⟨f2, rfl⟩ : ∃ f2, f' = f2 + 1 := ⟨f' - 1, by omega⟩
    have HA1 := hide hA'
    have HP1 := hide hP'
    have HO1 := hide hO'
    have HCL := hide hC
    have HL := hide hL
    have HRD := hide hrd
    have HC := hide (HIH.out f2 (by omega) w' g p' false hA' hpp hs (by omega))
    have hq2 := rd_bd s f2 none p'
    rw [rd_some] at HRD
    have k0 := hA'.cell 0
    have k1 := hA'.cell 1
    simp at k0 k1
    have kk1 := k1
    clear HIH hA' hP' hO' hC hL hrd
    cases hr : rd s f2 none p' with
    | none =>
      rw [hr] at HC HRD
      have HR := hide HRD.out.symm
      clear hr hq2
      go_wp2_with (go_at_call 183; refine HC.out.mono ?_; rintro e w1 ⟨rfl, ho1⟩)
      exact ⟨rfl, rest_no HR.out (HO1.out.trans (ho1.mono (by simp)))⟩
    | some r =>
      obtain ⟨nd, q⟩ := r
      obtain ⟨hq1, hqs⟩ := hq2 _ _ hr
      rw [hr] at HC HRD
      simp only at HRD
      clear hr hq2
      obtain ⟨part, hpart⟩ : ∃ x, x = s.extract p' q := ⟨_, rfl⟩
      rw [← hpart] at HRD
      have hpe : s.extract p' q = part := hpart.symm
      clear hpart
      have hq1' : (p' : Int) ≤ q := by omega
      have hqs' : (q : Int) ≤ s.size := by omega
      have hcl : C ≤ 1000000 := by have := HCL.out; omega
      have hc0 : 0 ≤ C := by have := HCL.out; omega
      have HC1 := hide (show C = parts.length from HCL.out)
      by_cases hdh : k = 6 ∧ parts.length = 1 ∧ gtB (parts.getLastD ByteArray.empty) part = true
      · have HR := hide (show R = none by have h := HRD.out; rw [if_pos hdh] at h; exact h.symm)
        obtain ⟨h6, h1, hg⟩ := hdh
        have hk6 : (k == 6) = true := by simpa using h6
        have hC1 : (C == 1) = true := by rw [beq_iff_eq]; have := HC1.out; omega
        rw [← HL.out] at hg
        unfold gtB at hg
        clear h6 h1
        go_wp2_with (go_at_call 183; refine HC.out.mono ?_; rintro e w1 ⟨bv1, pv1, rfl, ha1, ho1, _, _⟩; have HA1 := hide ha1; have HO1 := hide (HO1.out.trans (ho1.mono (by simp))); have HP1 := hide (HP1.out.only ho1 hgb hgl); obtain ⟨A, l, c, hB1, hw1⟩ := HP1.out; have HB1 := hide hB1; have HW1 := hide hw1; have k0 := ha1.cell 0; have k1 := ha1.cell 1; have b0 := hB1.cell 0; have b3 := hB1.cell 3; have f3 := hB1.frozen 3; simp at k0 k1 b0 b3; clear ha1 ho1 hB1 hw1)
        go_quiet (fail)
        go_wp2_with fail
        exact ⟨rfl, rest_no HR.out (HO1.out.drewN _)⟩
      · have HE2 := hide (show (if peekV s q 44 = true then rd s f2 (some (k, n, parts ++ [part])) (q + 1) else rdEnd s k n (parts ++ [part]) q) = R by have h := HRD.out; rwa [if_neg hdh] at h)
        have hcs : (k == 6) = false ∨ ((k == 6) = true ∧ (C == 1) = false) ∨ ((k == 6) = true ∧ (C == 1) = true ∧ (!(Op.bytesLess L.toList part.toList || L.toList == part.toList)) = false) := by
          by_cases a : k = 6
          · have a' : (k == 6) = true := by simpa using a
            by_cases c : parts.length = 1
            · refine .inr (.inr ⟨a', by rw [beq_iff_eq]; have := HC1.out; omega, ?_⟩)
              have h : ¬ gtB L part = true := fun h => hdh ⟨a, c, by rw [← HL.out]; exact h⟩
              simpa [gtB] using h
            · exact .inr (.inl ⟨a', by rw [beq_eq_false_iff_ne]; have := HC1.out; omega⟩)
          · exact .inl (by simpa using a)
        clear hdh
        cases keep with
        | false =>
          rcases hcs with hk6 | ⟨hk6, hC1⟩ | ⟨hk6, hC1, hg⟩
          all_goals
            go_wp2_with (go_at_call 183; refine HC.out.mono ?_; rintro e w1 ⟨bv1, pv1, rfl, ha1, ho1, _, _⟩; have HA1 := hide ha1; have HO1 := hide (HO1.out.trans (ho1.mono (by simp))); have HP1 := hide (HP1.out.only ho1 hgb hgl); obtain ⟨A, l, c, hB1, hw1⟩ := HP1.out; have HB1 := hide hB1; have HW1 := hide hw1; have k0 := ha1.cell 0; have k1 := ha1.cell 1; have b0 := hB1.cell 0; have b3 := hB1.cell 3; have f3 := hB1.frozen 3; simp at k0 k1 b0 b3; clear ha1 ho1 hB1 hw1)
            go_quiet (fail)
            have HA3 := hide (HA1.out.drewN nq)
            have HO3 := hide (HO1.out.drewN nq)
            have HP3 := hide (parts_keep (part := part) (HP1.out.drewN nq))
            cases hpv : peekV s q 44 with
            | true =>
              have HPV := hide hpv
              have hlt := peek_lt hpv
              have HNX := hide (show rd s f2 (some (k, n, parts ++ [part])) (q + 1) = R by have h := HE2.out; rwa [hpv, if_pos rfl] at h)
              clear hpv
              go_wp2_with (go_at_call 243; refine (peek_any _ g s q 44 HA3.out (by unfold maxLen; omega)).mono ?_; rintro e w4 ⟨rfl, nq2, hw4⟩; have HA4 := hide (show At g s q w4 by rw [hw4]; exact HA3.out.drewN nq2); have HO4 := hide (show Only [g, b] w w4 by rw [hw4]; exact HO3.out.drewN nq2); have HP4 := hide (show Parts b k n bv _ (parts ++ [part]) w w4 by rw [hw4]; exact HP3.out.drewN nq2); have m1 := HA4.out.cell 1; have f1 := HA4.out.frozen 1; simp at m1; clear hw4; rw [HPV.out])
              (try go_step3)
              refine ⟨⟨_, _, f2, q + 1, parts ++ [part], ⟨rfl, rfl, rfl, rfl, rfl, rfl, rfl⟩, (by have := HC1.out; simp; omega), (by simp), (by omega), (by omega), (by omega), (by simp; omega), HNX.out, HA4.out.set_ 1 _, HP4.out.only ((Only.refl [g] _).setCell (p := ⟨g, 1, none⟩) (.inl (by simp)) _) hgb hgl, HO4.out.setCell (p := ⟨g, 1, none⟩) (.inl (by simp)) _⟩, ?_⟩
              have hm := World.cell?_setCell_same w4 ⟨g, 1, none⟩ (.int .i64 ((q : Int) + 1)) m1
              simp [intOf, two', hm, kk1]
              omega
            | false =>
              have HPV := hide hpv
              have HNX := hide (show rdEnd s k n (parts ++ [part]) q = R by have h := HE2.out; rwa [hpv, if_neg (by simp)] at h)
              clear hpv
              go_wp2_with (go_at_call 243; refine (peek_any _ g s q 44 HA3.out (by unfold maxLen; omega)).mono ?_; rintro e w4 ⟨rfl, nq2, hw4⟩; have HA4 := hide (show At g s q w4 by rw [hw4]; exact HA3.out.drewN nq2); have HO4 := hide (show Only [g, b] w w4 by rw [hw4]; exact HO3.out.drewN nq2); have HP4 := hide (show Parts b k n bv _ (parts ++ [part]) w w4 by rw [hw4]; exact HP3.out.drewN nq2); have m1 := HA4.out.cell 1; have f1 := HA4.out.frozen 1; simp at m1; clear hw4; rw [HPV.out])
              go_step3
              rename_i hK
              refine hK _ _ ?_
              exact HDN.out _ _ _ ⟨_, _, q, parts ++ [part], ⟨rfl, rfl, rfl, rfl, rfl, rfl, rfl⟩, (by have := HC1.out; simp; omega), HNX.out, HA4.out, HP4.out, HO4.out⟩
        | true =>
          rcases hcs with hk6 | ⟨hk6, hC1⟩ | ⟨hk6, hC1, hg⟩
          all_goals
            go_wp2_with (go_at_call 183; refine HC.out.mono ?_; rintro e w1 ⟨bv1, pv1, rfl, ha1, ho1, _, _⟩; have HA1 := hide ha1; have HO1 := hide (HO1.out.trans (ho1.mono (by simp))); have HP1 := hide (HP1.out.only ho1 hgb hgl); obtain ⟨A, l, c, hB1, hw1⟩ := HP1.out; have HB1 := hide hB1; have HW1 := hide hw1; have k0 := ha1.cell 0; have k1 := ha1.cell 1; have b0 := hB1.cell 0; have b3 := hB1.cell 3; have f3 := hB1.frozen 3; simp at k0 k1 b0 b3; clear ha1 ho1 hB1 hw1)
            go_quiet (fail)
            have HOWN := hide (show ((w1.drewN nq).alloc (.cells #[.string part] 9)).ownsRow w.heap.size 9 1 (.slice A l c) parts.length (strs parts) from World.ownsRow.alloc (own_only HW1.out ((Only.refl [] w1).drewN nq) (by simp)) _)
            have HRN := hide (reads_one (w1.drewN nq) 9 (.string part) (w1.heap.size + 1) (Nat.lt_succ_self _))
            have HA2 := hide ((HA1.out.drewN nq).alloc (.cells #[.string part] 9))
            have HB2 := hide ((HB1.out.drewN nq).alloc (.cells #[.string part] 9))
            have HO2 := hide ((HO1.out.drewN nq).alloc (.cells #[.string part] 9))
            have HSZ := hide HO2.out.size
            cases hpv : peekV s q 44 with
            | true =>
              have HPV := hide hpv
              have hlt := peek_lt hpv
              have HNX := hide (show rd s f2 (some (k, n, parts ++ [part])) (q + 1) = R by have h := HE2.out; rwa [hpv, if_pos rfl] at h)
              clear hpv
              go_wp2_with (first
                | (at_builtin; refine wpList_append_any _ rfl (.tmp 49) (.tmp 51) 60 rfl w.heap.size 9 i0 (.string ByteArray.empty) 1 16 Tryz.underlying60 hi hz0 hz1 hz2 rfl (by decide) (.slice A l c) parts.length (strs parts) rfl HOWN.out _ _ 1 1 [.string part] rfl HRN.out (by simp [Value.oneCell']) (by have := HC1.out; unfold maxLen; omega) (by have := HC1.out; omega) HSZ.out ?_; intro v1 w3 hown1 hg1 _; rw [strs_snoc] at hown1; obtain ⟨A1, c1, rfl, _, _⟩ := own_form hown1; have hne : some b ≠ (Value.slice A l c).ownBlock := fun e => (by have := own_block_ge HOWN.out e.symm; omega); have hne2 : some g ≠ (Value.slice A l c).ownBlock := fun e => (by have := own_block_ge HOWN.out e.symm; omega); have hB3 := HB2.out.grown hg1 hne; have e3 := hB3.cell 3; have g3 := hB3.frozen 3; simp at e3; have HA3 := hide (show At g s q (w3.setCell ⟨b, 3, none⟩ (.slice A1 (parts.length + 1) c1)) from Blk.far (Blk.grown HA2.out hg1 hne2) hgb _); have HO3 := hide ((HO2.out.grown hg1 (fun x hx => .inr (own_block_ge HOWN.out hx))).setCell (p := ⟨b, 3, none⟩) (.inl (by simp)) (.slice A1 (parts.length + 1) c1)); have HP3 := hide (parts_app hB3 hown1 hbl); clear hown1 hg1 hB3 hne hne2)
                | (go_at_call 243; refine (peek_any _ g s q 44 HA3.out (by unfold maxLen; omega)).mono ?_; rintro e w4 ⟨rfl, nq2, hw4⟩; have HA4 := hide (show At g s q w4 by rw [hw4]; exact HA3.out.drewN nq2); have HO4 := hide (show Only [g, b] w w4 by rw [hw4]; exact HO3.out.drewN nq2); have HP4 := hide (show Parts b k n bv _ (parts ++ [part]) w w4 by rw [hw4]; exact HP3.out.drewN nq2); have m1 := HA4.out.cell 1; have f1 := HA4.out.frozen 1; simp at m1; clear hw4; rw [HPV.out]))
              (try go_step3)
              refine ⟨⟨_, _, f2, q + 1, parts ++ [part], ⟨rfl, rfl, rfl, rfl, rfl, rfl, rfl⟩, (by have := HC1.out; simp; omega), (by simp), (by omega), (by omega), (by omega), (by simp; omega), HNX.out, HA4.out.set_ 1 _, HP4.out.only ((Only.refl [g] _).setCell (p := ⟨g, 1, none⟩) (.inl (by simp)) _) hgb hgl, HO4.out.setCell (p := ⟨g, 1, none⟩) (.inl (by simp)) _⟩, ?_⟩
              have hm := World.cell?_setCell_same w4 ⟨g, 1, none⟩ (.int .i64 ((q : Int) + 1)) m1
              simp [intOf, two', hm, kk1]
              omega
            | false =>
              have HPV := hide hpv
              have HNX := hide (show rdEnd s k n (parts ++ [part]) q = R by have h := HE2.out; rwa [hpv, if_neg (by simp)] at h)
              clear hpv
              go_wp2_with (first
                | (at_builtin; refine wpList_append_any _ rfl (.tmp 49) (.tmp 51) 60 rfl w.heap.size 9 i0 (.string ByteArray.empty) 1 16 Tryz.underlying60 hi hz0 hz1 hz2 rfl (by decide) (.slice A l c) parts.length (strs parts) rfl HOWN.out _ _ 1 1 [.string part] rfl HRN.out (by simp [Value.oneCell']) (by have := HC1.out; unfold maxLen; omega) (by have := HC1.out; omega) HSZ.out ?_; intro v1 w3 hown1 hg1 _; rw [strs_snoc] at hown1; obtain ⟨A1, c1, rfl, _, _⟩ := own_form hown1; have hne : some b ≠ (Value.slice A l c).ownBlock := fun e => (by have := own_block_ge HOWN.out e.symm; omega); have hne2 : some g ≠ (Value.slice A l c).ownBlock := fun e => (by have := own_block_ge HOWN.out e.symm; omega); have hB3 := HB2.out.grown hg1 hne; have e3 := hB3.cell 3; have g3 := hB3.frozen 3; simp at e3; have HA3 := hide (show At g s q (w3.setCell ⟨b, 3, none⟩ (.slice A1 (parts.length + 1) c1)) from Blk.far (Blk.grown HA2.out hg1 hne2) hgb _); have HO3 := hide ((HO2.out.grown hg1 (fun x hx => .inr (own_block_ge HOWN.out hx))).setCell (p := ⟨b, 3, none⟩) (.inl (by simp)) (.slice A1 (parts.length + 1) c1)); have HP3 := hide (parts_app hB3 hown1 hbl); clear hown1 hg1 hB3 hne hne2)
                | (go_at_call 243; refine (peek_any _ g s q 44 HA3.out (by unfold maxLen; omega)).mono ?_; rintro e w4 ⟨rfl, nq2, hw4⟩; have HA4 := hide (show At g s q w4 by rw [hw4]; exact HA3.out.drewN nq2); have HO4 := hide (show Only [g, b] w w4 by rw [hw4]; exact HO3.out.drewN nq2); have HP4 := hide (show Parts b k n bv _ (parts ++ [part]) w w4 by rw [hw4]; exact HP3.out.drewN nq2); have m1 := HA4.out.cell 1; have f1 := HA4.out.frozen 1; simp at m1; clear hw4; rw [HPV.out]))
              go_step3
              rename_i hK
              refine hK _ _ ?_
              exact HDN.out _ _ _ ⟨_, _, q, parts ++ [part], ⟨rfl, rfl, rfl, rfl, rfl, rfl, rfl⟩, (by have := HC1.out; simp; omega), HNX.out, HA4.out, HP4.out, HO4.out⟩
end
end Go.Proofs.YtcokjoidpnfjhaaGreatDoor

/-
  Walks and plain words (texts Rff, Ap2). No condition beyond those that each theorem states.
-/
import Derived.Maps.AppendAt
import Derived.Test.YthecnaclfhfilaaDoorA07
namespace Go.Proofs.YthecnaclfhfilaaDoor
section
open Go.RowKit Go.Shelf
attribute [local go_sem] Oper.semAt_some

/-- A part of one byte. -/
def okD (p : ByteArray) : Prop := (numR p.data.toList).2 = 0 ∧ (numR p.data.toList).1 ≤ 255
instance (p : ByteArray) : Decidable (okD p) := by unfold okD; infer_instance
def outD (l : List ByteArray) : List UInt8 := l.map fun p => UInt8.ofNat (numR p.data.toList).1
/-- What is read of a text without colons. -/
def readDot (s : ByteArray) : List UInt8 × Nat := if (∀ p ∈ splitB 46 s, okD p) ∧ (outD (splitB 46 s)).length = 4 then (outD (splitB 46 s), 0) else ([], 3)
set_option maxRecDepth 100000 in
set_option maxHeartbeats 12800000 in
theorem read_dot (w : World) (s : ByteArray) (hs : s.size ≤ 1000000) (hcol : decide (0 ≤ Lib.indexByte s.data.toList 58) = false) : Calls Tryd.prog 6 #[.string s] w (BytsPost (readDot s) w) := by
  obtain ⟨i0, hi, hz0, hz1, hz2⟩ := info_parts info_u8a
  have HCT := hide (fun W => callsIn_wide (n := 5 - 1).2 (Tryd.strings_Contains_one s 58 W))
  rw [hcol] at HCT
  clear hcol
  refine (callsIn_wide (n := 5)).1 ?_
  refine callsIn_of_wp_marks Tryd.func6 rfl trivial ?_ rfl
  simp only [Tryd.ntmps6, List.size_toArray, List.length_cons, List.length_nil, Nat.reduceAdd, Nat.reduceSub, Array.replicate_succ, Array.replicate_zero, List.push_toArray, List.append_toArray, List.nil_append, List.cons_append]
  gi_wp2_with (first
    | (refine ⟨trivial, ?_⟩; gi_at_call 19; refine (HCT.out _).mono ?_; rintro e w1 ⟨rfl, rfl⟩)
    | (refine ⟨trivial, ?_⟩; gi_at_call 20; refine (callsIn_wide.2 (splitSeq_any _ _ _)).mono ?_; rintro e w2 ⟨rfl, rfl⟩))
  clear HCT
  simp only [Nat.add_assoc, Nat.reduceAdd, World.size_alloc]
  have HO := hide (show Only [] w ((((((w.alloc (.cells #[.slice none 0 0] 23)).alloc (.cells #[.int .i64 0] 24)).alloc (.cells #[.slice none 0 0] 23)).alloc (.cells #[.string s] 9)).alloc (.cells #[.string ⟨#[46]⟩] 9)).alloc (.cells #[.int .i64 0] 3)) from ((((((Only.refl [] w).alloc _).alloc _).alloc _).alloc _).alloc _).alloc _)
  have HR := hide ((((((Blk.new w 23 #[.slice none 0 0]).alloc (.cells #[.int .i64 0] 24)).alloc (.cells #[.slice none 0 0] 23)).alloc (.cells #[.string s] 9)).alloc (.cells #[.string ⟨#[46]⟩] 9)).alloc (.cells #[.int .i64 0] 3))
  have HC := hide (((((Blk.new (w.alloc (.cells #[.slice none 0 0] 23)) 24 #[.int .i64 0]).alloc (.cells #[.slice none 0 0] 23)).alloc (.cells #[.string s] 9)).alloc (.cells #[.string ⟨#[46]⟩] 9)).alloc (.cells #[.int .i64 0] 3))
  have HU := hide ((((Blk.new ((w.alloc (.cells #[.slice none 0 0] 23)).alloc (.cells #[.int .i64 0] 24)) 23 #[.slice none 0 0]).alloc (.cells #[.string s] 9)).alloc (.cells #[.string ⟨#[46]⟩] 9)).alloc (.cells #[.int .i64 0] 3))
  have HS := hide (((Blk.new (((w.alloc (.cells #[.slice none 0 0] 23)).alloc (.cells #[.int .i64 0] 24)).alloc (.cells #[.slice none 0 0] 23)) 9 #[.string s]).alloc (.cells #[.string ⟨#[46]⟩] 9)).alloc (.cells #[.int .i64 0] 3))
  have HP := hide ((Blk.new ((((w.alloc (.cells #[.slice none 0 0] 23)).alloc (.cells #[.int .i64 0] 24)).alloc (.cells #[.slice none 0 0] 23)).alloc (.cells #[.string s] 9)) 9 #[.string ⟨#[46]⟩]).alloc (.cells #[.int .i64 0] 3))
  have HZ := hide (Blk.new (((((w.alloc (.cells #[.slice none 0 0] 23)).alloc (.cells #[.int .i64 0] 24)).alloc (.cells #[.slice none 0 0] 23)).alloc (.cells #[.string s] 9)).alloc (.cells #[.string ⟨#[46]⟩] 9)) 3 #[.int .i64 0])
  have HSZ := hide (show ((((((w.alloc (.cells #[.slice none 0 0] 23)).alloc (.cells #[.int .i64 0] 24)).alloc (.cells #[.slice none 0 0] 23)).alloc (.cells #[.string s] 9)).alloc (.cells #[.string ⟨#[46]⟩] 9)).alloc (.cells #[.int .i64 0] 3)).heap.size = w.heap.size + 6 from by simp only [World.size_alloc, Nat.add_assoc, Nat.reduceAdd])
  simp only [World.size_alloc, Nat.add_assoc, Nat.reduceAdd] at HR HC HU HS HP HZ
  generalize ((((((w.alloc (.cells #[.slice none 0 0] 23)).alloc (.cells #[.int .i64 0] 24)).alloc (.cells #[.slice none 0 0] 23)).alloc (.cells #[.string s] 9)).alloc (.cells #[.string ⟨#[46]⟩] 9)).alloc (.cells #[.int .i64 0] 3)) = w6 at *
  obtain ⟨B, hB⟩ : ∃ B, B = w.heap.size := ⟨_, rfl⟩
  rw [← hB] at HR HC HU HS HP HZ HSZ ⊢
  have HB := hide hB.symm
  have HBW := hide (show w.heap.size ≤ B from Nat.le_of_eq hB.symm)
  clear hB
  have HAT := hide (show RdAt w B [] w6 from ⟨HR.out, HC.out, ⟨_, HU.out, World.ownsRow_nil _ _ _ _⟩, HO.out⟩)
  refine range_priv (Kp := keep3 (B + 3)) (gf := 49) (lb := #[.pointer (some ⟨B + 4, 0, none⟩), .pointer (some ⟨B + 3, 0, none⟩), .pointer (some ⟨B + 5, 0, none⟩)]) rfl (enters_of Tryd.func49 (by kernel_rfl) rfl) (split_seq _ (B + 3) 46 s hs) (by have := HSZ.out; simp; omega) (fun W h => ⟨HS.out.only h (by simp), HP.out.only h (by simp), HZ.out.only h (by simp)⟩) (fun _ => rfl) keep3_trans (fun W l o' hl => keep3_put W l o' (by have := HSZ.out; omega))
    (fun pre W => (∀ p ∈ pre, okD p) ∧ RdAt w B (outD pre) W)
    (fun c pre W => c = .ret ∧ (∃ p ∈ pre, ¬ okD p) ∧ RdNo w B W)
    (fun t X Y h ho hk => ⟨h.1, h.2.stab HB.out (by rw [HSZ.out] at ho; exact ho) hk⟩)
    (fun c t X Y h ho hk => ⟨h.1, h.2.1, h.2.2.stab HB.out (by rw [HSZ.out] at ho; exact ho) hk⟩)
    ⟨by simp, HAT.out⟩
    (fun x => { tmps := #[.string s, undef, .pointer (some ⟨B, 0, none⟩), .pointer (some ⟨B + 1, 0, none⟩), .pointer (some ⟨B + 2, 0, none⟩), undef, undef, undef, .string x, undef, undef, .string s, .bool false, undef, undef, undef, undef, undef, undef, undef, undef, undef, undef, undef, undef, undef, undef, undef, undef, undef, undef, undef, undef, undef, undef, .string s, .func (.func 49) #[] #[.pointer (some ⟨B + 4, 0, none⟩), .pointer (some ⟨B + 3, 0, none⟩), .pointer (some ⟨B + 5, 0, none⟩)], .string x, undef, undef, undef, undef, undef, undef, undef, undef, undef, undef, undef, undef, undef, undef, undef, undef, undef, undef, undef, undef], defers := [] }) ?assign ?body ?done ?stop
  case assign =>
    intro x W K hK
    gi_wp2
    exact hK
  case body =>
    rintro pre x W ⟨hok, hat⟩ hsp hD ⟨R, hL⟩
    rw [HSZ.out] at hD hL ⊢
    obtain ⟨hxs, hpl⟩ := splitB_size hsp
    obtain ⟨hr, hc, ⟨v, hu, hown⟩, hon⟩ := hat
    have hD8 : B + 8 ≤ W.heap.size := (Array.getElem?_eq_some_iff.1 hL).1
    obtain ⟨Av, cv, rfl, _, _⟩ := own_form hown
    have HRk := hide hr
    have HCk := hide hc
    have HUk := hide hu
    have HOk := hide hown
    have HNk := hide hon
    have HDk := hide hD
    have HLk := hide hL
    have HOK := hide hok
    have HK := hide (Only.refl [] W)
    have HLEN := hide (show (outD pre).length = pre.length from by simp [outD])
    have HPL := hide (show pre.length ≤ 1000000 by omega)
    have HRH := hide (fun W => callsIn_wide (n := 5 - 1 - 1 - 1).2 (num_read W x (by omega)))
    have HNO := hide (show ¬ okD x → ¬ okD x from id)
    have HOX := hide (show okD x ↔ (numR x.data.toList).2 = 0 ∧ (numR x.data.toList).1 ≤ 255 from Iff.rfl)
    have HOUT := hide (show outD (pre ++ [x]) = outD pre ++ [UInt8.ofNat (numR x.data.toList).1] from by simp [outD])
    clear hok hsp hr hc hu hown hon hD hL hxs hpl
    generalize numR x.data.toList = rr at *
    obtain ⟨n, cd⟩ := rr
    unfold NumRPost at HRH
    simp only at HRH HOX HOUT
    by_cases hcd : cd = 0
    · subst hcd
      simp only [show ((0 : Nat) : Int) = 0 from rfl] at HRH
      by_cases hb2 : n ≤ 255
      · have HYES := hide (HOX.out.2 ⟨rfl, hb2⟩)
        have hb3 : ¬ (255 : Int) < (n : Int) := by omega
        have hcv : IntKind.u8.wrap (n : Int) = (n : Int) := by rw [IntKind.wrap_u8]; omega
        have HBY := hide (show ints .u8 (byts [UInt8.ofNat n]) = [.int .u8 (n : Nat)] from by simp [ints, byts, UInt8.toNat_ofNat']; omega)
        clear hb2
        gi_wp2_with (first
          | (refine ⟨trivial, ?_⟩; gi_at_call 22; refine (CallsIn.inRound _ (HRH.out _)).mono ?_; rintro e w3 ⟨rfl, ho⟩; replace HRk := hide (HRk.out.only ho (by simp)); replace HCk := hide (HCk.out.only ho (by simp)); replace HUk := hide (HUk.out.only ho (by simp)); replace HOk := hide (own_only HOk.out ho (by simp)); replace HNk := hide (HNk.out.trans ho); replace HK := hide (HK.out.trans ho); have u0 := HUk.out.cell 0; have r0 := HRk.out.cell 0; have c0 := HCk.out.cell 0; simp at u0 r0 c0; have rf := HRk.out.frozen; have cf := HCk.out.frozen; have uf := HUk.out.frozen; clear ho)
          | (gi_at_builtin; refine wpListIn_append_own _ rfl _ _ 23 rfl (B + 8) 5 i0 (.int .u8 0) 1 1 Tryd.underlying23 hi hz0 hz1 hz2 rfl (by decide) (.slice Av (outD pre).length cv) (outD pre).length _ rfl (HOk.out.alloc _) ⟨w3.heap.size, 0, none⟩ 1 1 [.int .u8 (n : Nat)] rfl rfl (cell_one_new _ _ _) (by simp [Value.oneCell']) (by have := HLEN.out; have := HPL.out; unfold maxLen; omega) (by have := HLEN.out; have := HPL.out; omega) (by have := HK.out.size; simp; omega) ?_; intro v4 w4 hown4 hg4 _; have HO4 := hide hown4; obtain ⟨A4, c4, rfl, _, _⟩ := own_form hown4; have HG := hide (show Only (Value.slice Av (outD pre).length cv).ownBlock.toList w3 w4 from ((Only.refl _ w3).alloc _).grown hg4 (fun k hk => .inl (by simpa using hk))); have HGE := hide (show ∀ z ∈ (Value.slice Av (outD pre).length cv).ownBlock.toList, B + 8 ≤ z from fun z hz => own_block_ge HOk.out (by simpa using hz)); replace HUk := hide (HUk.out.only HG.out (fun h => by have := HGE.out _ h; omega)); replace HRk := hide (HRk.out.only HG.out (fun h => by have := HGE.out _ h; omega)); replace HCk := hide (HCk.out.only HG.out (fun h => by have := HGE.out _ h; omega)); have uf4 := HUk.out.frozen; have u4 := HUk.out.cell 0; simp at u4; clear hown4 hg4))
        have hq : ∀ k, k < B + 8 → k ≠ B + 2 → (w4.setCell ⟨B + 2, 0, none⟩ (.slice A4 ((outD pre).length + 1) c4)).heap[k]? = W.heap[k]? := fun k h1 h2 =>
          (Below.heap_setCell _ ⟨B + 2, 0, none⟩ _ k (by simpa using h2)).trans ((HG.out.block k (by have := HK.out.size; omega) (fun h => by have := HGE.out _ h; omega)).trans (HK.out.block k (by omega) (by simp)))
        refine ⟨⟨hq _ (by omega) (by omega), hq _ (by omega) (by omega)⟩, fun k o h1 h2 h3 => (hq k (by omega) (by omega)).trans h3, ?_, ?_⟩
        · intro p hp
          rcases List.mem_append.1 hp with hp | hp
          · exact HOK.out p hp
          · obtain rfl : p = x := by simpa using hp
            exact HYES.out
        · refine ⟨HRk.out.far (p := ⟨B + 2, 0, none⟩) (by simp) _, HCk.out.far (p := ⟨B + 2, 0, none⟩) (by simp) _, ⟨_, HUk.out.set_ 0 _, ?_⟩, (only_inL HNk.out HG.out (fun z hz => by have := HGE.out _ hz; have := HBW.out; omega)).setCell (p := ⟨B + 2, 0, none⟩) (.inr (show w.heap.size ≤ B + 2 from by have := HBW.out; omega)) _⟩
          rw [HOUT.out, List.length_append, ← ints_byts_append, HBY.out]
          exact own_only HO4.out ((Only.refl [B + 2] w4).setCell (p := ⟨B + 2, 0, none⟩) (.inl (by simp)) _) (by simp)
      · have hbb : (255 : Int) < (n : Int) := by omega
        replace HNO := hide (HNO.out (fun h => hb2 (HOX.out.1 h).2))
        clear hb2
        gi_wp2_with (refine ⟨trivial, ?_⟩; gi_at_call 22; refine (CallsIn.inRound _ (HRH.out _)).mono ?_; rintro e w3 ⟨rfl, ho⟩; replace HRk := hide (HRk.out.only ho (by simp)); replace HCk := hide (HCk.out.only ho (by simp)); replace HUk := hide (HUk.out.only ho (by simp)); replace HOk := hide (own_only HOk.out ho (by simp)); replace HNk := hide (HNk.out.trans ho); replace HK := hide (HK.out.trans ho); have u0 := HUk.out.cell 0; have r0 := HRk.out.cell 0; have c0 := HCk.out.cell 0; simp at u0 r0 c0; have rf := HRk.out.frozen; have cf := HCk.out.frozen; have uf := HUk.out.frozen; clear ho)
        have hb7 : ∀ k, k ≠ B → k ≠ B + 1 → k < W.heap.size → ((w3.setCell ⟨B, 0, none⟩ (.slice none 0 0)).setCell ⟨B + 1, 0, none⟩ (.int .i64 3)).heap[k]? = W.heap[k]? := fun k h1 h2 h3 =>
          (Below.heap_setCell _ ⟨B + 1, 0, none⟩ _ k (by simpa using h2)).trans ((Below.heap_setCell _ ⟨B, 0, none⟩ _ k (by simpa using h1)).trans (HK.out.block k h3 (by simp)))
        refine ⟨⟨hb7 _ (by omega) (by omega) (by omega), hb7 _ (by omega) (by omega) (by omega)⟩, rfl, ⟨x, by simp, HNO.out⟩, ⟨(HRk.out.set_ 0 _).far (p := ⟨B + 1, 0, none⟩) (by simp) _, (HCk.out.far (p := ⟨B, 0, none⟩) (by simp) _).set_ 0 _, (HNk.out.setCell (p := ⟨B, 0, none⟩) (.inr HBW.out) _).setCell (p := ⟨B + 1, 0, none⟩) (.inr (Nat.le_succ_of_le HBW.out)) _⟩⟩
    · have hbb : ((cd : Int) != 0) = true := by rw [bne_iff_ne]; omega
      replace HNO := hide (HNO.out (fun h => hcd (HOX.out.1 h).1))
      clear hcd
      gi_wp2_with (refine ⟨trivial, ?_⟩; gi_at_call 22; refine (CallsIn.inRound _ (HRH.out _)).mono ?_; rintro e w3 ⟨rfl, ho⟩; replace HRk := hide (HRk.out.only ho (by simp)); replace HCk := hide (HCk.out.only ho (by simp)); replace HUk := hide (HUk.out.only ho (by simp)); replace HOk := hide (own_only HOk.out ho (by simp)); replace HNk := hide (HNk.out.trans ho); replace HK := hide (HK.out.trans ho); have u0 := HUk.out.cell 0; have r0 := HRk.out.cell 0; have c0 := HCk.out.cell 0; simp at u0 r0 c0; have rf := HRk.out.frozen; have cf := HCk.out.frozen; have uf := HUk.out.frozen; clear ho)
      have hb7 : ∀ k, k ≠ B → k ≠ B + 1 → k < W.heap.size → ((w3.setCell ⟨B, 0, none⟩ (.slice none 0 0)).setCell ⟨B + 1, 0, none⟩ (.int .i64 3)).heap[k]? = W.heap[k]? := fun k h1 h2 h3 =>
        (Below.heap_setCell _ ⟨B + 1, 0, none⟩ _ k (by simpa using h2)).trans ((Below.heap_setCell _ ⟨B, 0, none⟩ _ k (by simpa using h1)).trans (HK.out.block k h3 (by simp)))
      refine ⟨⟨hb7 _ (by omega) (by omega) (by omega), hb7 _ (by omega) (by omega) (by omega)⟩, rfl, ⟨x, by simp, HNO.out⟩, ⟨(HRk.out.set_ 0 _).far (p := ⟨B + 1, 0, none⟩) (by simp) _, (HCk.out.far (p := ⟨B, 0, none⟩) (by simp) _).set_ 0 _, (HNk.out.setCell (p := ⟨B, 0, none⟩) (.inr HBW.out) _).setCell (p := ⟨B + 1, 0, none⟩) (.inr (Nat.le_succ_of_le HBW.out)) _⟩⟩
  case done =>
    rintro xs W rfl ⟨hok, hat⟩ hD
    rw [HSZ.out] at hD ⊢
    obtain ⟨hr, hc, ⟨v, hu, hown⟩, hon⟩ := hat
    obtain ⟨Av, cv, rfl, _, _⟩ := own_form hown
    have HRk := hide hr
    have HCk := hide hc
    have HUk := hide hu
    have HOk := hide hown
    have HNk := hide hon
    have HDk := hide hD
    have u0 := HUk.out.cell 0
    have r0 := HRk.out.cell 0
    have c0 := HCk.out.cell 0
    simp at u0 r0 c0
    have rf := HRk.out.frozen
    have cf := HCk.out.frozen
    have HVAL := hide (show (outD (splitB 46 s)).length = 4 → readDot s = (outD (splitB 46 s), 0) from fun h => if_pos ⟨hok, h⟩)
    have HVNO := hide (show ¬ (outD (splitB 46 s)).length = 4 → readDot s = ([], 3) from fun h => if_neg (fun h2 => h h2.2))
    clear hr hc hu hown hon hD hok
    generalize outD (splitB 46 s) = L at *
    by_cases hlen : L.length = 4
    · have HV := hide (HVAL.out hlen)
      rw [hlen] at u0 HUk HOk
      clear hlen HVAL HVNO
      gi_wp2
      have hD4 : ((W.setCell ⟨B, 0, none⟩ (.slice Av 4 cv)).setCell ⟨B + 1, 0, none⟩ (.int .i64 0)).heap[B + 6]? = some (.deferred (some [])) :=
        (Below.heap_setCell _ ⟨B + 1, 0, none⟩ _ (B + 6) (by simp)).trans ((Below.heap_setCell _ ⟨B, 0, none⟩ _ (B + 6) (by simp)).trans HDk.out)
      refine ⟨by simp, .inl ⟨_, _, rfl, run_takeDeferred hD4, ?_⟩⟩
      have HR2 : Blk ((W.setCell ⟨B, 0, none⟩ (.slice Av 4 cv)).setCell ⟨B + 1, 0, none⟩ (.int .i64 0)) B 23 #[.slice Av 4 cv] := (HRk.out.set_ 0 _).far (p := ⟨B + 1, 0, none⟩) (by simp) _
      have HC2 : Blk ((W.setCell ⟨B, 0, none⟩ (.slice Av 4 cv)).setCell ⟨B + 1, 0, none⟩ (.int .i64 0)) (B + 1) 24 #[.int .i64 0] := (HCk.out.far (p := ⟨B, 0, none⟩) (by simp) _).set_ 0 _
      have HO2 := ((HNk.out.setCell (p := ⟨B, 0, none⟩) (.inr HBW.out) (.slice Av 4 cv)).setCell (p := ⟨B + 1, 0, none⟩) (.inr (Nat.le_succ_of_le HBW.out)) (.int .i64 0))
      have HW2 := own_only (own_only HOk.out ((Only.refl [B] W).setCell (p := ⟨B, 0, none⟩) (.inl (by simp)) (.slice Av 4 cv)) (by simp)) ((Only.refl [B + 1] _).setCell (p := ⟨B + 1, 0, none⟩) (.inl (by simp)) (.int .i64 0)) (by simp)
      generalize ((W.setCell ⟨B, 0, none⟩ (.slice Av 4 cv)).setCell ⟨B + 1, 0, none⟩ (.int .i64 0)) = w7 at *
      have hp := only_put w7 (B + 6) (.deferred none)
      rw [HV.out]
      exact ⟨_, results_two_boxes rfl _ _ _ _ _ _ _ _ rfl rfl (HR2.only hp (by simp)) (HC2.only hp (by simp)) Tryd.underlying23 Tryd.underlying24,
        ⟨_, rfl, only_inL HO2 hp (by have := HBW.out; simp; omega), fun N hN => (Rd.of_own (own_only2 HW2 hp (fun x hx hx2 => by
          obtain rfl : x = B + 6 := by simpa using hx
          have := own_block_ge HW2 hx2
          omega)) (fun x hx => by have := hN x hx; have := HB.out; omega)).1⟩⟩
    · have HV := hide (HVNO.out hlen)
      have hlb : ((L.length : Int) != 4) = true := by rw [bne_iff_ne]; omega
      clear hlen HVAL HVNO
      generalize L.length = q at *
      gi_wp2
      have hD4 : ((W.setCell ⟨B, 0, none⟩ (.slice none 0 0)).setCell ⟨B + 1, 0, none⟩ (.int .i64 3)).heap[B + 6]? = some (.deferred (some [])) :=
        (Below.heap_setCell _ ⟨B + 1, 0, none⟩ _ (B + 6) (by simp)).trans ((Below.heap_setCell _ ⟨B, 0, none⟩ _ (B + 6) (by simp)).trans HDk.out)
      refine ⟨by simp, .inl ⟨_, _, rfl, run_takeDeferred hD4, ?_⟩⟩
      have HR2 : Blk ((W.setCell ⟨B, 0, none⟩ (.slice none 0 0)).setCell ⟨B + 1, 0, none⟩ (.int .i64 3)) B 23 #[.slice none 0 0] := (HRk.out.set_ 0 _).far (p := ⟨B + 1, 0, none⟩) (by simp) _
      have HC2 : Blk ((W.setCell ⟨B, 0, none⟩ (.slice none 0 0)).setCell ⟨B + 1, 0, none⟩ (.int .i64 3)) (B + 1) 24 #[.int .i64 3] := (HCk.out.far (p := ⟨B, 0, none⟩) (by simp) _).set_ 0 _
      have HO2 := ((HNk.out.setCell (p := ⟨B, 0, none⟩) (.inr HBW.out) (.slice none 0 0)).setCell (p := ⟨B + 1, 0, none⟩) (.inr (Nat.le_succ_of_le HBW.out)) (.int .i64 3))
      generalize ((W.setCell ⟨B, 0, none⟩ (.slice none 0 0)).setCell ⟨B + 1, 0, none⟩ (.int .i64 3)) = w7 at *
      have hp := only_put w7 (B + 6) (.deferred none)
      rw [HV.out]
      exact ⟨_, results_two_boxes rfl _ _ _ _ _ _ _ _ rfl rfl (HR2.only hp (by simp)) (HC2.only hp (by simp)) Tryd.underlying23 Tryd.underlying24,
        ⟨_, rfl, only_inL HO2 hp (by have := HBW.out; simp; omega), fun N _ => Rd.nil _ N⟩⟩
  case stop =>
    rintro c pre W hsp ⟨rfl, ⟨p, hp, hno⟩, hat⟩ hD
    rw [HSZ.out] at hD ⊢
    have HV := hide (show readDot s = ([], 3) from if_neg (fun h2 => hno (h2.1 p (by obtain ⟨suf, h⟩ := hsp; rw [← h]; exact List.mem_append_left _ hp))))
    gi_wp2
    refine ⟨by simp, .inl ⟨_, _, rfl, run_takeDeferred hD, ?_⟩⟩
    have hp := only_put W (B + 6) (.deferred none)
    rw [HV.out]
    exact ⟨_, results_two_boxes rfl _ _ _ _ _ _ _ _ rfl rfl (hat.r.only hp (by simp)) (hat.c.only hp (by simp)) Tryd.underlying23 Tryd.underlying24,
      ⟨_, rfl, only_inL hat.on hp (by have := HBW.out; simp; omega), fun N _ => Rd.nil _ N⟩⟩
/-- What addr.Read hands back. -/
def readA (s : ByteArray) : List UInt8 × Nat := if 0 ≤ Lib.indexByte s.data.toList 58 then readCol s else readDot s
theorem Read_addr (w : World) (s : ByteArray) (hs : s.size ≤ 1000000) : Calls Tryd.prog 6 #[.string s] w (BytsPost (readA s) w) := by
  unfold readA
  by_cases h : 0 ≤ Lib.indexByte s.data.toList 58
  · rw [if_pos h]
    exact read_col w s hs (decide_eq_true h)
  · rw [if_neg h]
    exact read_dot w s hs (decide_eq_false h)
end
section
open Go.RowKit Go.Deep

theorem ba_append (a b : List UInt8) : (⟨a.toArray⟩ : ByteArray) ++ ⟨b.toArray⟩ = ⟨(a ++ b).toArray⟩ := by
  apply ByteArray.ext
  rw [ByteArray.data_append]
  simp
theorem cat_three (a b : List UInt8) : (⟨a.toArray⟩ : ByteArray) ++ ⟨#[47]⟩ ++ ⟨b.toArray⟩ = ⟨(a ++ 47 :: b).toArray⟩ := by
  rw [show (⟨#[47]⟩ : ByteArray) = ⟨[47].toArray⟩ from rfl, ba_append, ba_append]
  simp

set_option maxHeartbeats 3200000 in
theorem pp_no (v : Value) (l : List UInt8) (b : Int) (N : List Nat) (w : World) (hv : Rd w N v (ints .u8 (byts l))) (hp : isPlain l b = false) :
    Calls Tryd.prog 13 #[.agg #[v, .int .i64 b]] w fun e w' => e = .returned (.tuple #[.string ⟨#[]⟩, .int .i64 3]) ∧ Only [] w w' := by
  have HO := hide ((Only.refl [] w).alloc (.cells #[v, .int .i64 b] 30))
  have HV := hide ((hv.less (N' := []) (fun x hx => by cases hx)).only HO.out (by simp))
  have HP := hide hp
  obtain ⟨A, cap, rfl, hcp, hcm⟩ := hv.formb
  clear hv hp
  go_enter Tryd.func13, Tryd.ntmps13
  go_wp2_with (go_at_call 26; refine (plain_any _ l b _ _ HV.out).mono ?_; rw [HP.out]; rintro e w1 ⟨rfl, ho⟩; have HC := hide (HO.out.trans ho); clear ho)
  go_ret2
  exact ⟨rfl, HC.out⟩

set_option maxRecDepth 100000 in
set_option maxHeartbeats 3200000 in
theorem pp_four (v : Value) (l : List UInt8) (b : Nat) (N : List Nat) (w : World) (hv : Rd w N v (ints .u8 (byts l))) (hp : isPlain l b = true) (h4 : l.length = 4) (htab : Tab w) :
    Calls Tryd.prog 13 #[.agg #[v, .int .i64 b]] w (TxtPost (dotV l 4 ++ ([47] ++ Lib.decDigits b)) w) := by
  have HO := hide ((Only.refl [] w).alloc (.cells #[v, .int .i64 b] 30))
  have HV := hide ((hv.less (N' := []) (fun x hx => by cases hx)).only HO.out (by simp))
  have HBX := hide (Blk.new w 30 #[v, .int .i64 b])
  have hb : b ≤ 32 := by
    have := right_nat (l := l) (b := b) (by unfold isPlain at hp; simp only [Bool.and_eq_true] at hp; exact hp.1)
    omega
  have HT := hide htab
  have HP := hide hp
  have H4 := hide h4
  have hd1 := dot_len l 4
  have hd2 := dec_len b (by omega)
  have HB64 := hide (show b < 18446744073709551616 by omega)
  obtain ⟨A, cap, rfl, hcp, hcm⟩ := hv.formb
  rw [h4] at HV HO HBX ⊢
  clear hv hp h4 htab
  obtain ⟨X, hX⟩ : ∃ X : ByteArray, X = ⟨(dotV l 4).toArray⟩ := ⟨_, rfl⟩
  obtain ⟨Y, hY⟩ : ∃ Y : ByteArray, Y = ⟨(Lib.decDigits b).toArray⟩ := ⟨_, rfl⟩
  have hxs : X.size ≤ 84 := by rw [hX]; simpa [ByteArray.size] using hd1
  have hys : Y.size ≤ 20 := by rw [hY]; simpa [ByteArray.size] using hd2
  have HX := hide hX
  have HY := hide hY
  clear hX hY hd1 hd2
  go_enter Tryd.func13, Tryd.ntmps13
  go_wp2_with (first
    | (go_at_call 26; refine (plain_any _ l b _ _ HV.out).mono ?_; rw [HP.out]; rintro e w1 ⟨rfl, ho⟩; have HC := hide (HO.out.trans ho); have HV := hide (HV.out.only ho (by simp)); have HBX := hide (HBX.out.only ho (by simp)); have c0 := HBX.out.cell 0; have c1 := HBX.out.cell 1; simp at c0 c1; clear ho)
    | (go_at_call 12; refine (print_four _ l _ _ HV.out H4.out (HT.out.only HC.out (by simp))).mono ?_; unfold TxtPost; rw [← HX.out]; rintro e w2 ⟨rfl, ho⟩; have HC := hide (HC.out.trans ho); have HBX := hide (HBX.out.only ho (by simp)); have c0 := HBX.out.cell 0; have c1 := HBX.out.cell 1; simp at c0 c1; clear ho)
    | (go_at_call 29; refine (print_any b HB64.out _ (HT.out.only HC.out (by simp))).mono ?_; unfold StrPost; rw [← HY.out]; rintro e w3 ⟨rfl, ho⟩; have HC := hide (HC.out.trans ho); clear ho))
  go_ret2
  refine ⟨congrArg (fun s => Ending.returned (.tuple #[.string s, .int .i64 0])) ?_, HC.out⟩
  rw [HX.out, HY.out]
  exact cat_three _ _

theorem byts_example : byts [10, 0, 0, 7] = [10, 0, 0, 7] := by decide
theorem plain_example : plainV [10, 0, 0, 7] 24 = [10, 0, 0, 0] := by decide +kernel
theorem dot_example : dotV [10, 0, 0, 0] 4 ++ ([47] ++ Lib.decDigits 24) = [49, 48, 46, 48, 46, 48, 46, 48, 47, 50, 52] := by
  have h10 : Lib.decDigits 10 = [49, 48] := by rw [dec_split 10 (by decide), Lib.decDigits, dif_pos (by decide)]; decide
  have h24 : Lib.decDigits 24 = [50, 52] := by rw [dec_split 24 (by decide), Lib.decDigits, dif_pos (by decide)]; decide
  have h0 : Lib.decDigits 0 = [48] := by rw [Lib.decDigits, dif_pos (by decide)]; decide
  have e0 : (([10, 0, 0, 0] : List UInt8).getD 0 0).toNat = 10 := by decide
  have e1 : (([10, 0, 0, 0] : List UInt8).getD 1 0).toNat = 0 := by decide
  have e2 : (([10, 0, 0, 0] : List UInt8).getD 2 0).toNat = 0 := by decide
  have e3 : (([10, 0, 0, 0] : List UInt8).getD 3 0).toNat = 0 := by decide
  simp only [dotV, e0, e1, e2, e3, h10, h24, h0]
  decide

set_option maxRecDepth 100000 in
set_option maxHeartbeats 3200000 in
theorem awake04 (w : World) (htab : Tab w) : Calls Tryd.prog 5 #[] w fun e w' => e = .returned (.bool true) ∧ Only [] w w' := by
  have HR := hide (show Rd (w.alloc (.cells #[.int .u8 10, .int .u8 0, .int .u8 0, .int .u8 7] 5)) [] (.slice (some ⟨w.heap.size, 0, none⟩) 4 4) (ints .u8 (byts [10, 0, 0, 7])) by
    rw [byts_example]
    exact rd_new w 5 [] [.int .u8 10, .int .u8 0, .int .u8 0, .int .u8 7] (fun x hx => by cases hx) (by simp [maxLen]))
  have HC := hide ((Only.refl [] w).alloc (.cells #[.int .u8 10, .int .u8 0, .int .u8 0, .int .u8 7] 5))
  have HT := hide htab
  have HE := hide (show TupPost (plainV [10, 0, 0, 7] (24 : Int).toNat) 24 = TupPost [10, 0, 0, 0] 24 by rw [show (24 : Int).toNat = 24 from rfl, plain_example])
  have HD := hide (show TxtPost (dotV [10, 0, 0, 0] 4 ++ ([47] ++ Lib.decDigits 24)) = TxtPost [49, 48, 46, 48, 46, 48, 46, 48, 47, 50, 52] by rw [dot_example])
  clear htab
  go_enter Tryd.func5, Tryd.ntmps5
  go_wp2_with (first
    | (go_at_call 18; refine (Plain_yes _ [10, 0, 0, 7] 24 _ _ HR.out (by decide)).mono ?_; rw [HE.out]; rintro e w1 ⟨v, rfl, hrd, ho⟩; obtain ⟨A, cap, rfl, _, _⟩ := hrd.formb; have HC := hide ((HC.out.trans ho).alloc (.cells #[.slice A 4 cap, .int .i64 24] 30)); have HR := hide (hrd.only ((Only.refl [] w1).alloc (.cells #[.slice A 4 cap, .int .i64 24] 30)) (by simp)); clear hrd ho)
    | (go_at_call 13; refine (pp_four _ [10, 0, 0, 0] 24 _ _ HR.out (by decide) rfl (HT.out.only HC.out (by simp))).mono ?_; rw [HD.out]; rintro e w2 ⟨rfl, ho⟩; have HC := hide (HC.out.trans ho); clear ho))
  go_ret
  exact ⟨rfl, HC.out⟩
end
end Go.Proofs.YthecnaclfhfilaaDoor

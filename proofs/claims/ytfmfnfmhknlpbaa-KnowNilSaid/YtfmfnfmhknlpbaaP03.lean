/-
  Walks and plain words for KnowNil (texts Tm7, Tm8, Tm9, Kn1, Kn2). No condition beyond those that each theorem states.
-/
import Derived.Defers
import Derived.Recover
import Derived.Maps.OwnSet
import Derived.Deep.RegionHeld3
import Derived.Test.YtfmfnfmhknlpbaaP02
namespace Go.Proofs.Ytfmfnfmhknlpbaa
section
open Go.RowKit Go.Deep

theorem read_no {g : Nat} {s : ByteArray} {keep : Bool} {r : Option (Nd × Nat)} {w w' : World} (h : r = none) (ho : Only [g] w w') : ReadPost g s keep r w (.panicked [{ v := .iface 116 (.agg #[]), recovered := false }]) w' := by
  subst h; exact ⟨rfl, ho⟩
/-- The answer stands in the result's block. -/
def fin (B : Nat) (k : Int) (n : Nat) (bv pv : Value) (w : World) : World := (((w.setCell ⟨B, 0, none⟩ (.int .i64 k)).setCell ⟨B, 1, none⟩ (.int .u64 n)).setCell ⟨B, 2, none⟩ bv).setCell ⟨B, 3, none⟩ pv
theorem fin_blk {B t : Nat} {k : Int} {n : Nat} {bv pv a b c d : Value} {w : World} (h : Blk w B t #[a, b, c, d]) : Blk (fin B k n bv pv w) B t #[.int .i64 k, .int .u64 n, bv, pv] := (((h.set_ 0 _).set_ 1 _).set_ 2 _).set_ 3 _
theorem fin_only (B : Nat) (k : Int) (n : Nat) (bv pv : Value) (w : World) : Only [B] w (fin B k n bv pv w) :=
  ((((Only.refl [B] w).setCell (p := ⟨B, 0, none⟩) (.inl (by simp)) _).setCell (p := ⟨B, 1, none⟩) (.inl (by simp)) _).setCell (p := ⟨B, 2, none⟩) (.inl (by simp)) _).setCell (p := ⟨B, 3, none⟩) (.inl (by simp)) _
theorem read_yes {g : Nat} {s : ByteArray} {keep : Bool} {r : Option (Nd × Nat)} {w w' : World} {k : Int} {n q : Nat} {bs : List UInt8} {parts : List ByteArray} {bv pv : Value} (h : r = some ((k, n, bs, parts), q)) (hg : g < w.heap.size) (ha : At g s q w') (ho : Only [g] w w')
    (hb : ∀ N : List Nat, (∀ x ∈ N, x ≤ w.heap.size) → Rd w' N bv (ints .u8 (byts bs))) (hp : keep = true → ∀ N : List Nat, (∀ x ∈ N, x ≤ w.heap.size) → Rd w' N pv (strs parts)) :
    ReadPost g s keep r w (.returned (.agg #[.int .i64 k, .int .u64 n, bv, pv])) (fin w.heap.size k n bv pv w') := by
  subst h
  have hf := fin_only w.heap.size k n bv pv w'
  refine ⟨_, _, rfl, Blk.only ha hf (by simp; omega), ?_, fun N hN => ?_, fun hk N hN => ?_⟩
  · exact (ho.mono (S' := [w.heap.size, g]) (by simp)).trans (hf.mono (by simp)) |>.mono (by simp)
  · exact ((hb (w.heap.size :: N) (by simp; exact fun x hx => Nat.le_of_lt (hN x hx))).only hf (by simp)).less (by simp; exact fun x hx => .inr hx)
  · exact ((hp hk (w.heap.size :: N) (by simp; exact fun x hx => Nat.le_of_lt (hN x hx))).only hf (by simp)).less (by simp; exact fun x hx => .inr hx)
theorem kind_range (c : Int) : 0 ≤ kindV c ∧ kindV c ≤ 11 := by unfold kindV; repeat' split <;> omega

theorem rdEnd_nd {s : ByteArray} {k : Int} {n : Nat} {parts : List ByteArray} {p q : Nat} {nd : Nd} (h : rdEnd s k n parts p = some (nd, q)) : nd.1 = k ∧ nd.2.1 = n ∧ nd.2.2.1 = [] := by
  unfold rdEnd at h
  split at h
  · split at h
    · simp only [Option.some.injEq, Prod.mk.injEq] at h
      rw [← h.1]
      exact ⟨rfl, rfl, rfl⟩
    · cases h
  · cases h
theorem rd_nd (s : ByteArray) : ∀ (f : Nat) (k : Int) (n : Nat) (parts : List ByteArray) (p q : Nat) (nd : Nd), rd s f (some (k, n, parts)) p = some (nd, q) → nd.1 = k ∧ nd.2.1 = n ∧ nd.2.2.1 = [] := by
  intro f
  induction f with
  | zero => intro k n parts p q nd h; simp [rd] at h
  | succ f ih =>
    intro k n parts p q nd h
    rw [rd_some] at h
    split at h
    · cases h
    · split at h
      · cases h
      · split at h
        · exact ih _ _ _ _ _ _ h
        · exact rdEnd_nd h
theorem rd_rest_nd {s : ByteArray} {f : Nat} {k : Int} {n p q : Nat} {nd : Nd} (h : (if peekV s p 41 = true then rdEnd s k n [] p else rd s f (some (k, n, [])) p) = some (nd, q)) : nd.1 = k ∧ nd.2.1 = n ∧ nd.2.2.1 = [] := by
  split at h
  · exact rdEnd_nd h
  · exact rd_nd _ _ _ _ _ _ _ _ h

theorem rd_term (s : ByteArray) (f p : Nat) (h : p < s.size) : rd s (f + 1) none p =
      if kindV s[p].toNat = 0 then none
      else if kindV s[p].toNat = 1 then some ((1, 0, [], []), p + 1)
      else if kindV s[p].toNat = 2 ∨ kindV s[p].toNat = 3 then
        match numK (kindV s[p].toNat) (s.extract (p + 1) (wend s (p + 1))).data.toList with
        | none => none
        | some n => some ((kindV s[p].toNat, n, [], []), wend s (p + 1))
      else if kindV s[p].toNat = 4 then
        if (hexR (s.extract (p + 1) (wend s (p + 1))).data.toList).2 = 0 then some ((4, 0, (hexR (s.extract (p + 1) (wend s (p + 1))).data.toList).1, []), wend s (p + 1)) else none
      else if peekV s (p + 1) 40 = false then none
      else if numberedV (kindV s[p].toNat) = true then
        match numK (kindV s[p].toNat) (s.extract (p + 2) (wend s (p + 2))).data.toList with
        | none => none
        | some n =>
          if peekV s (wend s (p + 2)) 44 = false then none
          else if peekV s (wend s (p + 2) + 1) 41 = true then rdEnd s (kindV s[p].toNat) n [] (wend s (p + 2) + 1)
          else rd s f (some (kindV s[p].toNat, n, [])) (wend s (p + 2) + 1)
      else if peekV s (p + 2) 41 = true then rdEnd s (kindV s[p].toNat) 0 [] (p + 2)
      else rd s f (some (kindV s[p].toNat, 0, [])) (p + 2) := by
  exact dif_pos h

set_option maxRecDepth 100000 in
set_option maxHeartbeats 12800000 in
theorem read_any (s : ByteArray) (f : Nat) (IH : RSaid s f) : TSaid s (f + 1) := by
  intro w g p keep hA hp hs hf
  obtain ⟨R, hR⟩ : ∃ R, R = rd s (f + 1) none p := ⟨_, rfl⟩
  rw [← hR]
  have HR0 := hide hR
  clear hR
  have HIH := hide IH
  have hgl : g < w.heap.size := hA.lt
  have HA := hide (show At g s p (w.alloc (.cells #[.int .i64 0, .int .u64 0, .slice none 0 0, .slice none 0 0] 99)) from hA.alloc _)
  have HB := hide (Blk.new w 99 #[.int .i64 0, .int .u64 0, .slice none 0 0, .slice none 0 0])
  have HO := hide ((Only.refl [g] w).alloc (.cells #[.int .i64 0, .int .u64 0, .slice none 0 0, .slice none 0 0] 99))
  have k0 := HA.out.cell 0
  have k1 := HA.out.cell 1
  simp at k0 k1
  clear hA IH
  by_cases hlt : p < s.size
  case neg =>
    have hge : (s.size : Int) ≤ p := by omega
    have hd : decide (s.size ≤ p) = true := decide_eq_true (by omega)
    have HR := hide (show R = none by rw [HR0.out, rd, dif_neg hlt])
    go_enter Try.func74, Try.ntmps74
    go_wp2_with fail
    go_quiet (fail)
    go_wp2_with fail
    exact ⟨rfl, read_no HR.out (HO.out.drewN _)⟩
  have hltI : ¬ (s.size : Int) ≤ p := by omega
  have hltI' : (p : Int) < s.size := by omega
  have hd : decide (s.size ≤ p) = false := decide_eq_false (by omega)
  rw [rd_term s f p hlt] at HR0
  obtain ⟨k, hk⟩ : ∃ k, k = kindV s[p].toNat := ⟨_, rfl⟩
  have hkr := kind_range s[p].toNat
  have HKO := hide (fun W => kindOf_any s[p].toNat W)
  rw [← hk] at hkr HKO HR0
  clear hk
  go_enter Try.func74, Try.ntmps74
  go_wp2_with fail
  go_quiet (fail)
  clear k0 k1
  have HA := hide (HA.out.drewN nq)
  have HB := hide (HB.out.drewN nq)
  have HO := hide (HO.out.drewN nq)
  have hwz : w.heap.size + 1 ≤ ((w.alloc (.cells #[.int .i64 0, .int .u64 0, .slice none 0 0, .slice none 0 0] 99)).drewN nq).heap.size := by simp
  generalize (w.alloc (.cells #[.int .i64 0, .int .u64 0, .slice none 0 0, .slice none 0 0] 99)).drewN nq = wA at *
  have k0 := Blk.cell HA.out 0
  have k1 := Blk.cell HA.out 1
  have z0 := Blk.cell (HA.out.alloc (.cells #[.int .i64 0, .int .u64 0, .slice none 0 0, .slice none 0 0] 99)) 0
  have z1 := Blk.cell (HA.out.alloc (.cells #[.int .i64 0, .int .u64 0, .slice none 0 0, .slice none 0 0] 99)) 1
  have y0 := Blk.cell (HA.out.alloc (.cells #[.int .i64 k, .int .u64 0, .slice none 0 0, .slice none 0 0] 99)) 0
  have y1 := Blk.cell (HA.out.alloc (.cells #[.int .i64 k, .int .u64 0, .slice none 0 0, .slice none 0 0] 99)) 1
  simp at k0 k1 z0 z1 y0 y1
  go_upto_region 3 with (fail)
  go_cut [5] (fun r w' => ∃ b, r = .pointer (some ⟨b, 0, none⟩) ∧ w.heap.size < b ∧ Hid (At g s p w') ∧ Hid (Blk w' w.heap.size 99 #[.int .i64 0, .int .u64 0, .slice none 0 0, .slice none 0 0]) ∧ Hid (Blk w' b 99 #[.int .i64 k, .int .u64 0, .slice none 0 0, .slice none 0 0]) ∧ Hid (Only [g] w w'))
  case first =>
    go_region_held3 (fun w' => w'.cell? ⟨g, 0, none⟩ = some (.string s) ∧ w'.cell? ⟨g, 1, none⟩ = some (.int .i64 p)) (first | exact ⟨k0, k1⟩ | exact ⟨z0, z1⟩ | exact ⟨y0, y1⟩)
      (first | (go_at_call 94; refine (HKO.out _).mono ?_; rintro e w' ⟨rfl, rfl⟩))
    all_goals
      go_wp2_with fail
      go_meet
      exact ⟨_, rfl, hwz, hide ((HA.out.alloc _).drew), hide ((HB.out.alloc _).drew), hide ((Blk.new wA 99 #[.int .i64 k, .int .u64 0, .slice none 0 0, .slice none 0 0]).drew), hide ((HO.out.alloc _).drew)⟩
  case rest =>
    clear k0 k1 z0 z1 y0 y1 HKO hd hltI HA HB HO hwz
    obtain ⟨b, rfl, hbl, HA, HB0, HB1, HO⟩ := hcut
    have hgb : g ≠ b := by omega
    have HML := hide (show s.size ≤ maxLen by unfold maxLen; omega)
    have HA2 := hide (show At g s (p + 1) (wc.setCell ⟨g, 1, none⟩ (.int .i64 ((p : Int) + 1))) from HA.out.set_ 1 _)
    have HB02 := hide (show Blk (wc.setCell ⟨g, 1, none⟩ (.int .i64 ((p : Int) + 1))) w.heap.size 99 _ from HB0.out.far (p := ⟨g, 1, none⟩) (by simp; omega) _)
    have HB12 := hide (show Blk (wc.setCell ⟨g, 1, none⟩ (.int .i64 ((p : Int) + 1))) b 99 _ from HB1.out.far (p := ⟨g, 1, none⟩) (Ne.symm hgb) _)
    have HO2 := hide (HO.out.setCell (p := ⟨g, 1, none⟩) (.inl (by simp)) (.int .i64 ((p : Int) + 1)))
    have k1 := HA.out.cell 1
    have f1 := HA.out.frozen 1
    have b0 := HB12.out.cell 0
    have b1 := HB12.out.cell 1
    have b2 := HB12.out.cell 2
    have b3 := HB12.out.cell 3
    have r0 := HB02.out.cell 0
    have r1 := HB02.out.cell 1
    have r2 := HB02.out.cell 2
    have r3 := HB02.out.cell 3
    have rf := HB02.out.frozen
    have bf := HB12.out.frozen
    simp at k1 b0 b1 b2 b3 r0 r1 r2 r3
    by_cases h0 : k = 0
    · have HR := hide (show R = none by rw [HR0.out, if_pos h0])
      have t0 : (k == 0) = true := by simpa using h0
      clear h0
      go_wp2_with fail
      exact ⟨rfl, read_no HR.out HO2.out⟩
    have t0 : (k == 0) = false := by simpa using h0
    rw [if_neg h0] at HR0
    clear h0
    by_cases h1 : k = 1
    · subst h1
      have HR := hide (show R = some ((1, 0, [], []), p + 1) by rw [HR0.out, if_pos rfl])
      go_wp2_with fail
      refine bodyPost_ret (results_cell_row rfl _ _ w.heap.size 99 _ (0, 0) _ rfl (fin_blk HB02.out) Try.underlying99 rfl (by kernel_rfl)) rfl ?_
      exact read_yes HR.out hgl HA2.out HO2.out (fun N _ => Rd.nil _ N) (fun _ N _ => Rd.nil _ N)
    have t1 : (k == 1) = false := by simpa using h1
    rw [if_neg h1] at HR0
    clear h1
    by_cases h23 : k = 2 ∨ k = 3
    · rw [if_pos h23] at HR0
      have HN := hide (number_any _ g s (p + 1) k HA2.out (by omega) hs)
      generalize numK k (s.extract (p + 1) (wend s (p + 1))).data.toList = nk at HN HR0
      have t2 : (k == 2) = true ∨ (k == 2) = false ∧ (k == 3) = true := by
        rcases h23 with h | h
        · exact .inl (by simpa using h)
        · exact .inr ⟨by rw [beq_eq_false_iff_ne]; omega, by simpa using h⟩
      cases nk with
      | none =>
        have HR := hide HR0.out
        simp only at HR
        clear h23
        rcases t2 with t2 | ⟨t2, t3⟩
        all_goals
          go_wp2_with (go_at_call 95; refine HN.out.mono ?_; rintro e w3 ⟨rfl, ho3⟩)
          exact ⟨rfl, read_no HR.out (HO2.out.trans ho3)⟩
      | some n =>
        have HR := hide HR0.out
        simp only at HR
        clear h23
        rcases t2 with t2 | ⟨t2, t3⟩
        all_goals
          go_wp2_with (go_at_call 95; refine HN.out.mono ?_; rintro e w3 ⟨rfl, ha3, ho3, hn3⟩; have HA3 := hide ha3; clear b0 b1 b2 b3 r0 r1 r2 r3 rf bf; have HB03 := hide (HB02.out.only ho3 (by simp; omega)); have HB13 := hide (HB12.out.only ho3 (by simp; omega)); have HO3 := hide (HO2.out.trans ho3); have b0 := HB13.out.cell 0; have b1 := HB13.out.cell 1; have b2 := HB13.out.cell 2; have b3 := HB13.out.cell 3; have r0 := HB03.out.cell 0; have r1 := HB03.out.cell 1; have r2 := HB03.out.cell 2; have r3 := HB03.out.cell 3; have rf := HB03.out.frozen; have bf := HB13.out.frozen; simp at b0 b1 b2 b3 r0 r1 r2 r3; clear ha3 ho3)
          have HB04 := hide (show Blk (w3.setCell ⟨b, 1, none⟩ (.int .u64 n)) w.heap.size 99 _ from HB03.out.far (p := ⟨b, 1, none⟩) (by simp; omega) _)
          refine bodyPost_ret (results_cell_row rfl _ _ w.heap.size 99 _ (0, 0) _ rfl (fin_blk HB04.out) Try.underlying99 rfl (by kernel_rfl)) rfl ?_
          exact read_yes HR.out hgl (Blk.far HA3.out hgb _) (HO3.out.setCell (p := ⟨b, 1, none⟩) (.inr (by simp; omega)) _) (fun N _ => Rd.nil _ N) (fun _ N _ => Rd.nil _ N)
    have t2 : (k == 2) = false := by rw [beq_eq_false_iff_ne]; exact fun h => h23 (.inl h)
    have t3 : (k == 3) = false := by rw [beq_eq_false_iff_ne]; exact fun h => h23 (.inr h)
    rw [if_neg h23] at HR0
    clear h23
    by_cases h4 : k = 4
    · subst h4
      rw [if_pos rfl] at HR0
      have HW := hide (word_any _ g s (p + 1) HA2.out (by omega) (by unfold maxLen; omega))
      have HX := hide (fun W => num_readhex W (s.extract (p + 1) (wend s (p + 1))) (by have := extract_size s (p + 1) (wend s (p + 1)); omega))
      generalize hexR (s.extract (p + 1) (wend s (p + 1))).data.toList = r at HR0 HX
      obtain ⟨bs, c⟩ := r
      simp only at HR0
      by_cases hc : c = 0
      · have HR := hide (show R = some ((4, 0, bs, []), wend s (p + 1)) by rw [HR0.out, if_pos hc])
        have tc : ((c : Int) != 0) = false := by rw [bne_eq_false_iff_eq]; omega
        clear hc
        go_wp2_with (first
          | (go_at_call 97; refine HW.out.mono ?_; rintro e w3 ⟨rfl, ha3, ho3⟩; have HA3 := hide ha3; clear b0 b1 b2 b3 r0 r1 r2 r3 rf bf; have HB03 := hide (HB02.out.only ho3 (by simp; omega)); have HB13 := hide (HB12.out.only ho3 (by simp; omega)); have HO3 := hide (HO2.out.trans ho3); have b0 := HB13.out.cell 0; have b1 := HB13.out.cell 1; have b2 := HB13.out.cell 2; have b3 := HB13.out.cell 3; have r0 := HB03.out.cell 0; have r1 := HB03.out.cell 1; have r2 := HB03.out.cell 2; have r3 := HB03.out.cell 3; have rf := HB03.out.frozen; have bf := HB13.out.frozen; simp at b0 b1 b2 b3 r0 r1 r2 r3; clear ha3 ho3)
          | (go_at_call 96; refine (HX.out _).mono ?_; rintro e w4 ⟨bv, rfl, ho4, hr4⟩; have HA4 := hide (show At g s (wend s (p + 1)) w4 from Blk.only HA3.out ho4 (by simp)); clear b0 b1 b2 b3 r0 r1 r2 r3 rf bf; have HB04 := hide (HB03.out.only ho4 (by simp)); have HB14 := hide (HB13.out.only ho4 (by simp)); have HO4 := hide (HO3.out.trans (ho4.mono (by simp))); have b0 := HB14.out.cell 0; have b1 := HB14.out.cell 1; have b2 := HB14.out.cell 2; have b3 := HB14.out.cell 3; have r0 := HB04.out.cell 0; have r1 := HB04.out.cell 1; have r2 := HB04.out.cell 2; have r3 := HB04.out.cell 3; have rf := HB04.out.frozen; have bf := HB14.out.frozen; simp at b0 b1 b2 b3 r0 r1 r2 r3; obtain ⟨A, cap, rfl, _, _⟩ := (hr4 [] (by simp)).formb; have HR4 := hide hr4; have hsz := HB13.out.lt; clear ho4 hr4))
        have HB05 := hide (show Blk (w4.setCell ⟨b, 2, none⟩ (.slice A bs.length cap)) w.heap.size 99 _ from HB04.out.far (p := ⟨b, 2, none⟩) (by simp; omega) _)
        refine bodyPost_ret (results_cell_row rfl _ _ w.heap.size 99 _ (0, 0) _ rfl (fin_blk HB05.out) Try.underlying99 rfl (by kernel_rfl)) rfl ?_
        refine read_yes HR.out hgl (Blk.far HA4.out hgb _) (HO4.out.setCell (p := ⟨b, 2, none⟩) (.inr (by simp; omega)) _) (fun N hN => ?_) (fun _ N _ => Rd.nil _ N)
        exact ((HR4.out (b :: N) (by intro x hx; simp at hx; rcases hx with rfl | hx; exact hsz; have := hN x hx; omega)).only ((Only.refl [b] _).setCell (p := ⟨b, 2, none⟩) (.inl (by simp)) _) (by simp)).less (by intro x hx; simp [hx])
      · have HR := hide (show R = none by rw [HR0.out, if_neg hc])
        have tc : ((c : Int) != 0) = true := by rw [bne_iff_ne]; omega
        clear hc
        go_wp2_with (first
          | (go_at_call 97; refine HW.out.mono ?_; rintro e w3 ⟨rfl, ha3, ho3⟩; have HA3 := hide ha3; clear b0 b1 b2 b3 r0 r1 r2 r3 rf bf; have HB03 := hide (HB02.out.only ho3 (by simp; omega)); have HB13 := hide (HB12.out.only ho3 (by simp; omega)); have HO3 := hide (HO2.out.trans ho3); have b0 := HB13.out.cell 0; have b1 := HB13.out.cell 1; have b2 := HB13.out.cell 2; have b3 := HB13.out.cell 3; have r0 := HB03.out.cell 0; have r1 := HB03.out.cell 1; have r2 := HB03.out.cell 2; have r3 := HB03.out.cell 3; have rf := HB03.out.frozen; have bf := HB13.out.frozen; simp at b0 b1 b2 b3 r0 r1 r2 r3; clear ha3 ho3)
          | (go_at_call 96; refine (HX.out _).mono ?_; rintro e w4 ⟨bv, rfl, ho4, hr4⟩; clear b0 b1 b2 b3 r0 r1 r2 r3 rf bf; have HB04 := hide (HB03.out.only ho4 (by simp)); have HB14 := hide (HB13.out.only ho4 (by simp)); have HO4 := hide (HO3.out.trans (ho4.mono (by simp))); have b0 := HB14.out.cell 0; have b1 := HB14.out.cell 1; have b2 := HB14.out.cell 2; have b3 := HB14.out.cell 3; have r0 := HB04.out.cell 0; have r1 := HB04.out.cell 1; have r2 := HB04.out.cell 2; have r3 := HB04.out.cell 3; have rf := HB04.out.frozen; have bf := HB14.out.frozen; simp at b0 b1 b2 b3 r0 r1 r2 r3; clear ho4 hr4))
        exact ⟨rfl, read_no HR.out HO4.out⟩
    have t4 : (k == 4) = false := by simpa using h4
    rw [if_neg h4] at HR0
    clear h4
    cases hp40 : peekV s (p + 1) 40 with
    | false =>
      have HPK := hide hp40
      have HR := hide (show R = none by rw [HR0.out, if_pos hp40])
      clear hp40
      go_wp2_with (go_at_call 98; refine (take_fault _ g s (p + 1) 40 HA2.out (by unfold maxLen; omega) HPK.out).mono ?_; rintro e w3 ⟨rfl, ho3⟩)
      exact ⟨rfl, read_no HR.out (HO2.out.trans ho3)⟩
    | true =>
      have HPK := hide hp40
      have hp1 := peek_lt hp40
      rw [if_neg (by rw [hp40]; simp)] at HR0
      clear hp40
      cases hnb : numberedV k with
      | false =>
        have HNB := hide hnb
        rw [if_neg (by rw [hnb]; simp)] at HR0
        clear hnb
        replace HR0 := HR0.out
        have HND := hide (fun (nd : Nd) (q : Nat) (h : (if peekV s (p + 2) 41 = true then rdEnd s k 0 [] (p + 2) else rd s f (some (k, 0, [])) (p + 2)) = some (nd, q)) => rd_rest_nd h)
        have HRS := hide (fun W h1 h2 => HIH.out W g b (p + 2) k 0 (.slice none 0 0) keep h1 hgb h2 (by omega) hs (by omega))
        generalize (if peekV s (p + 2) 41 = true then rdEnd s k 0 [] (p + 2) else rd s f (some (k, 0, [])) (p + 2)) = RR at HND HRS HR0
        cases RR with
        | none =>
          have HR := hide HR0
          clear HR0
          go_wp2_with (first
            | (go_at_call 98; (with_reducible refine (take_ok _ g s (p + 1) 40 HA2.out HML.out HPK.out).mono ?_); rintro e w3 ⟨rfl, ha3, ho3⟩; have HA3 := hide ha3; clear b0 b1 b2 b3 r0 r1 r2 r3 rf bf; have HB03 := hide (HB02.out.only ho3 (by simp; omega)); have HB13 := hide (HB12.out.only ho3 (by simp; omega)); have HO3 := hide (HO2.out.trans ho3); have b0 := HB13.out.cell 0; have b1 := HB13.out.cell 1; have b2 := HB13.out.cell 2; have b3 := HB13.out.cell 3; have r0 := HB03.out.cell 0; have r1 := HB03.out.cell 1; have r2 := HB03.out.cell 2; have r3 := HB03.out.cell 3; have rf := HB03.out.frozen; have bf := HB13.out.frozen; simp at b0 b1 b2 b3 r0 r1 r2 r3; clear ha3 ho3)
            | (go_at_call 99; refine (numbered_any _ _).mono ?_; rintro e w' ⟨rfl, rfl⟩; rw [HNB.out])
            | (go_at_call 100; refine (HRS.out _ HA3.out HB13.out).mono ?_; rintro e w7 ⟨rfl, ho7⟩))
          exact ⟨rfl, read_no HR.out (((HO3.out.mono (S' := [g, b]) (by simp)).trans ho7).mono (by simp; omega))⟩
        | some r =>
          obtain ⟨⟨k', n', bs, parts⟩, q⟩ := r
          obtain ⟨e1, e2, e3⟩ := HND.out _ _ rfl
          simp only at e1 e2 e3
          replace e1 := e1.symm
          replace e2 := e2.symm
          subst e1 e2 e3
          have HR := hide HR0
          clear HR0
          go_wp2_with (first
            | (go_at_call 98; (with_reducible refine (take_ok _ g s (p + 1) 40 HA2.out HML.out HPK.out).mono ?_); rintro e w3 ⟨rfl, ha3, ho3⟩; have HA3 := hide ha3; clear b0 b1 b2 b3 r0 r1 r2 r3 rf bf; have HB03 := hide (HB02.out.only ho3 (by simp; omega)); have HB13 := hide (HB12.out.only ho3 (by simp; omega)); have HO3 := hide (HO2.out.trans ho3); have b0 := HB13.out.cell 0; have b1 := HB13.out.cell 1; have b2 := HB13.out.cell 2; have b3 := HB13.out.cell 3; have r0 := HB03.out.cell 0; have r1 := HB03.out.cell 1; have r2 := HB03.out.cell 2; have r3 := HB03.out.cell 3; have rf := HB03.out.frozen; have bf := HB13.out.frozen; simp at b0 b1 b2 b3 r0 r1 r2 r3; clear ha3 ho3)
            | (go_at_call 99; refine (numbered_any _ _).mono ?_; rintro e w' ⟨rfl, rfl⟩; rw [HNB.out])
            | (go_at_call 100; refine (HRS.out _ HA3.out HB13.out).mono ?_; rintro e w7 ⟨rfl, ha7, ho7, A, l, c, hB7, hown⟩; have HA7 := hide ha7; clear b0 b1 b2 b3 r0 r1 r2 r3 rf bf; have HB07 := hide (HB03.out.only ho7 (by simp; omega)); have HB17 := hide hB7; have HO7 := hide (((HO3.out.mono (S' := [g, b]) (by simp)).trans ho7).mono (S' := [g]) (by simp; omega)); have HOW := hide hown; have HSZ := hide HB13.out.lt; have b0 := HB17.out.cell 0; have b1 := HB17.out.cell 1; have b2 := HB17.out.cell 2; have b3 := HB17.out.cell 3; have r0 := HB07.out.cell 0; have r1 := HB07.out.cell 1; have r2 := HB07.out.cell 2; have r3 := HB07.out.cell 3; have rf := HB07.out.frozen; have bf := HB17.out.frozen; simp at b0 b1 b2 b3 r0 r1 r2 r3; clear ha7 ho7 hB7 hown))
          refine bodyPost_ret (results_cell_row rfl _ _ w.heap.size 99 _ (0, 0) _ rfl (fin_blk HB07.out) Try.underlying99 rfl (by kernel_rfl)) rfl ?_
          refine read_yes HR.out hgl HA7.out HO7.out (fun N _ => Rd.nil _ N) (fun hk N hN => ?_)
          have h := HOW.out
          rw [if_pos hk] at h
          exact (Rd.of_own h (fun x hx => by have := hN x hx; have := HSZ.out; omega)).1
      | true =>
        have HNB := hide hnb
        rw [if_pos hnb] at HR0
        clear hnb
        have HN := hide (fun W h => number_any W g s (p + 2) k h (by omega) hs)
        have hwl := wend_le s (p + 2) (by omega)
        have hwg := wend_ge s (p + 2)
        generalize numK k (s.extract (p + 2) (wend s (p + 2))).data.toList = nk at HN HR0
        cases nk with
        | none =>
          have HR := hide HR0.out
          simp only at HR
          go_wp2_with (first
            | (go_at_call 98; (with_reducible refine (take_ok _ g s (p + 1) 40 HA2.out HML.out HPK.out).mono ?_); rintro e w3 ⟨rfl, ha3, ho3⟩; have HA3 := hide ha3; clear b0 b1 b2 b3 r0 r1 r2 r3 rf bf; have HB03 := hide (HB02.out.only ho3 (by simp; omega)); have HB13 := hide (HB12.out.only ho3 (by simp; omega)); have HO3 := hide (HO2.out.trans ho3); have b0 := HB13.out.cell 0; have b1 := HB13.out.cell 1; have b2 := HB13.out.cell 2; have b3 := HB13.out.cell 3; have r0 := HB03.out.cell 0; have r1 := HB03.out.cell 1; have r2 := HB03.out.cell 2; have r3 := HB03.out.cell 3; have rf := HB03.out.frozen; have bf := HB13.out.frozen; simp at b0 b1 b2 b3 r0 r1 r2 r3; clear ha3 ho3)
            | (go_at_call 99; refine (numbered_any _ _).mono ?_; rintro e w' ⟨rfl, rfl⟩; rw [HNB.out])
            | (go_at_call 95; refine (HN.out _ HA3.out).mono ?_; rintro e w4 ⟨rfl, ho4⟩))
          exact ⟨rfl, read_no HR.out (HO3.out.trans ho4)⟩
        | some n =>
          replace HR0 := HR0.out
          simp only at HR0
          obtain ⟨q2, hqe⟩ : ∃ q2, q2 = wend s (p + 2) := ⟨_, rfl⟩
          have HQ := hide hqe
          rw [← hqe] at HR0 hwl hwg
          clear hqe
          cases hpc : peekV s q2 44 with
          | false =>
            have HPC := hide hpc
            rw [if_pos hpc] at HR0
            have HR := hide HR0
            clear hpc HR0
            go_wp2_with (first
              | (go_at_call 98; (with_reducible refine (take_ok _ g s (p + 1) 40 HA2.out HML.out HPK.out).mono ?_); rintro e w3 ⟨rfl, ha3, ho3⟩; have HA3 := hide ha3; clear b0 b1 b2 b3 r0 r1 r2 r3 rf bf; have HB03 := hide (HB02.out.only ho3 (by simp; omega)); have HB13 := hide (HB12.out.only ho3 (by simp; omega)); have HO3 := hide (HO2.out.trans ho3); have b0 := HB13.out.cell 0; have b1 := HB13.out.cell 1; have b2 := HB13.out.cell 2; have b3 := HB13.out.cell 3; have r0 := HB03.out.cell 0; have r1 := HB03.out.cell 1; have r2 := HB03.out.cell 2; have r3 := HB03.out.cell 3; have rf := HB03.out.frozen; have bf := HB13.out.frozen; simp at b0 b1 b2 b3 r0 r1 r2 r3; clear ha3 ho3)
              | (go_at_call 99; refine (numbered_any _ _).mono ?_; rintro e w' ⟨rfl, rfl⟩; rw [HNB.out])
              | (go_at_call 95; refine (HN.out _ HA3.out).mono ?_; rintro e w4 ⟨rfl, ha4, ho4, hn4⟩; rw [← HQ.out] at ha4; clear b0 b1 b2 b3 r0 r1 r2 r3 rf bf; have HB05 := hide (show Blk (w4.setCell ⟨b, 1, none⟩ (.int .u64 n)) w.heap.size 99 _ from (HB03.out.only ho4 (by simp; omega)).far (p := ⟨b, 1, none⟩) (by simp; omega) _); have HB15 := hide (show Blk (w4.setCell ⟨b, 1, none⟩ (.int .u64 n)) b 99 #[.int .i64 k, .int .u64 n, .slice none 0 0, .slice none 0 0] from (HB13.out.only ho4 (by simp; omega)).set_ 1 _); have HA5 := hide (show At g s q2 (w4.setCell ⟨b, 1, none⟩ (.int .u64 n)) from Blk.far ha4 hgb _); have HO5 := hide ((HO3.out.trans ho4).setCell (p := ⟨b, 1, none⟩) (.inr (by simp; omega)) (.int .u64 n)); have j1 := (HB13.out.only ho4 (by simp; omega)).cell 1; have jf := (HB13.out.only ho4 (by simp; omega)).frozen 1; simp at j1; have b0 := HB15.out.cell 0; have b1 := HB15.out.cell 1; have b2 := HB15.out.cell 2; have b3 := HB15.out.cell 3; have r0 := HB05.out.cell 0; have r1 := HB05.out.cell 1; have r2 := HB05.out.cell 2; have r3 := HB05.out.cell 3; have rf := HB05.out.frozen; have bf := HB15.out.frozen; simp at b0 b1 b2 b3 r0 r1 r2 r3; clear ha4 ho4)
              | (go_at_call 98; (with_reducible refine (take_fault _ g s q2 44 HA5.out HML.out HPC.out).mono ?_); rintro e w6 ⟨rfl, ho6⟩))
            exact ⟨rfl, read_no HR.out (HO5.out.trans ho6)⟩
          | true =>
            have HPC := hide hpc
            rw [if_neg (by rw [hpc]; simp)] at HR0
            have hq2 := peek_lt hpc
            clear hpc
            have HND := hide (fun (nd : Nd) (q : Nat) (h : (if peekV s (q2 + 1) 41 = true then rdEnd s k n [] (q2 + 1) else rd s f (some (k, n, [])) (q2 + 1)) = some (nd, q)) => rd_rest_nd h)
            have HRS := hide (fun W h1 h2 => HIH.out W g b (q2 + 1) k n (.slice none 0 0) keep h1 hgb h2 (by omega) hs (by omega))
            generalize (if peekV s (q2 + 1) 41 = true then rdEnd s k n [] (q2 + 1) else rd s f (some (k, n, [])) (q2 + 1)) = RR at HND HRS HR0
            cases RR with
            | none =>
              have HR := hide HR0
              clear HR0
              go_wp2_with (first
                | (go_at_call 98; (with_reducible refine (take_ok _ g s (p + 1) 40 HA2.out HML.out HPK.out).mono ?_); rintro e w3 ⟨rfl, ha3, ho3⟩; have HA3 := hide ha3; clear b0 b1 b2 b3 r0 r1 r2 r3 rf bf; have HB03 := hide (HB02.out.only ho3 (by simp; omega)); have HB13 := hide (HB12.out.only ho3 (by simp; omega)); have HO3 := hide (HO2.out.trans ho3); have b0 := HB13.out.cell 0; have b1 := HB13.out.cell 1; have b2 := HB13.out.cell 2; have b3 := HB13.out.cell 3; have r0 := HB03.out.cell 0; have r1 := HB03.out.cell 1; have r2 := HB03.out.cell 2; have r3 := HB03.out.cell 3; have rf := HB03.out.frozen; have bf := HB13.out.frozen; simp at b0 b1 b2 b3 r0 r1 r2 r3; clear ha3 ho3)
                | (go_at_call 99; refine (numbered_any _ _).mono ?_; rintro e w' ⟨rfl, rfl⟩; rw [HNB.out])
                | (go_at_call 95; refine (HN.out _ HA3.out).mono ?_; rintro e w4 ⟨rfl, ha4, ho4, hn4⟩; rw [← HQ.out] at ha4; clear b0 b1 b2 b3 r0 r1 r2 r3 rf bf; have HB05 := hide (show Blk (w4.setCell ⟨b, 1, none⟩ (.int .u64 n)) w.heap.size 99 _ from (HB03.out.only ho4 (by simp; omega)).far (p := ⟨b, 1, none⟩) (by simp; omega) _); have HB15 := hide (show Blk (w4.setCell ⟨b, 1, none⟩ (.int .u64 n)) b 99 #[.int .i64 k, .int .u64 n, .slice none 0 0, .slice none 0 0] from (HB13.out.only ho4 (by simp; omega)).set_ 1 _); have HA5 := hide (show At g s q2 (w4.setCell ⟨b, 1, none⟩ (.int .u64 n)) from Blk.far ha4 hgb _); have HO5 := hide ((HO3.out.trans ho4).setCell (p := ⟨b, 1, none⟩) (.inr (by simp; omega)) (.int .u64 n)); have j1 := (HB13.out.only ho4 (by simp; omega)).cell 1; have jf := (HB13.out.only ho4 (by simp; omega)).frozen 1; simp at j1; have b0 := HB15.out.cell 0; have b1 := HB15.out.cell 1; have b2 := HB15.out.cell 2; have b3 := HB15.out.cell 3; have r0 := HB05.out.cell 0; have r1 := HB05.out.cell 1; have r2 := HB05.out.cell 2; have r3 := HB05.out.cell 3; have rf := HB05.out.frozen; have bf := HB15.out.frozen; simp at b0 b1 b2 b3 r0 r1 r2 r3; clear ha4 ho4)
                | (go_at_call 98; (with_reducible refine (take_ok _ g s q2 44 HA5.out HML.out HPC.out).mono ?_); rintro e w6 ⟨rfl, ha6, ho6⟩; have HA6 := hide ha6; clear b0 b1 b2 b3 r0 r1 r2 r3 rf bf; have HB06 := hide (HB05.out.only ho6 (by simp; omega)); have HB16 := hide (HB15.out.only ho6 (by simp; omega)); have HO6 := hide (HO5.out.trans ho6); have b0 := HB16.out.cell 0; have b1 := HB16.out.cell 1; have b2 := HB16.out.cell 2; have b3 := HB16.out.cell 3; have r0 := HB06.out.cell 0; have r1 := HB06.out.cell 1; have r2 := HB06.out.cell 2; have r3 := HB06.out.cell 3; have rf := HB06.out.frozen; have bf := HB16.out.frozen; simp at b0 b1 b2 b3 r0 r1 r2 r3; clear ha6 ho6)
                | (go_at_call 100; refine (HRS.out _ HA6.out HB16.out).mono ?_; rintro e w7 ⟨rfl, ho7⟩))
              exact ⟨rfl, read_no HR.out (((HO6.out.mono (S' := [g, b]) (by simp)).trans ho7).mono (by simp; omega))⟩
            | some r =>
              obtain ⟨⟨k', n', bs, parts⟩, q⟩ := r
              obtain ⟨e1, e2, e3⟩ := HND.out _ _ rfl
              simp only at e1 e2 e3
              replace e1 := e1.symm
              replace e2 := e2.symm
              subst e1 e2 e3
              have HR := hide HR0
              clear HR0
              go_wp2_with (first
                | (go_at_call 98; (with_reducible refine (take_ok _ g s (p + 1) 40 HA2.out HML.out HPK.out).mono ?_); rintro e w3 ⟨rfl, ha3, ho3⟩; have HA3 := hide ha3; clear b0 b1 b2 b3 r0 r1 r2 r3 rf bf; have HB03 := hide (HB02.out.only ho3 (by simp; omega)); have HB13 := hide (HB12.out.only ho3 (by simp; omega)); have HO3 := hide (HO2.out.trans ho3); have b0 := HB13.out.cell 0; have b1 := HB13.out.cell 1; have b2 := HB13.out.cell 2; have b3 := HB13.out.cell 3; have r0 := HB03.out.cell 0; have r1 := HB03.out.cell 1; have r2 := HB03.out.cell 2; have r3 := HB03.out.cell 3; have rf := HB03.out.frozen; have bf := HB13.out.frozen; simp at b0 b1 b2 b3 r0 r1 r2 r3; clear ha3 ho3)
                | (go_at_call 99; refine (numbered_any _ _).mono ?_; rintro e w' ⟨rfl, rfl⟩; rw [HNB.out])
                | (go_at_call 95; refine (HN.out _ HA3.out).mono ?_; rintro e w4 ⟨rfl, ha4, ho4, hn4⟩; rw [← HQ.out] at ha4; clear b0 b1 b2 b3 r0 r1 r2 r3 rf bf; have HB05 := hide (show Blk (w4.setCell ⟨b, 1, none⟩ (.int .u64 n)) w.heap.size 99 _ from (HB03.out.only ho4 (by simp; omega)).far (p := ⟨b, 1, none⟩) (by simp; omega) _); have HB15 := hide (show Blk (w4.setCell ⟨b, 1, none⟩ (.int .u64 n)) b 99 #[.int .i64 k, .int .u64 n, .slice none 0 0, .slice none 0 0] from (HB13.out.only ho4 (by simp; omega)).set_ 1 _); have HA5 := hide (show At g s q2 (w4.setCell ⟨b, 1, none⟩ (.int .u64 n)) from Blk.far ha4 hgb _); have HO5 := hide ((HO3.out.trans ho4).setCell (p := ⟨b, 1, none⟩) (.inr (by simp; omega)) (.int .u64 n)); have j1 := (HB13.out.only ho4 (by simp; omega)).cell 1; have jf := (HB13.out.only ho4 (by simp; omega)).frozen 1; simp at j1; have b0 := HB15.out.cell 0; have b1 := HB15.out.cell 1; have b2 := HB15.out.cell 2; have b3 := HB15.out.cell 3; have r0 := HB05.out.cell 0; have r1 := HB05.out.cell 1; have r2 := HB05.out.cell 2; have r3 := HB05.out.cell 3; have rf := HB05.out.frozen; have bf := HB15.out.frozen; simp at b0 b1 b2 b3 r0 r1 r2 r3; clear ha4 ho4)
                | (go_at_call 98; (with_reducible refine (take_ok _ g s q2 44 HA5.out HML.out HPC.out).mono ?_); rintro e w6 ⟨rfl, ha6, ho6⟩; have HA6 := hide ha6; clear b0 b1 b2 b3 r0 r1 r2 r3 rf bf; have HB06 := hide (HB05.out.only ho6 (by simp; omega)); have HB16 := hide (HB15.out.only ho6 (by simp; omega)); have HO6 := hide (HO5.out.trans ho6); have b0 := HB16.out.cell 0; have b1 := HB16.out.cell 1; have b2 := HB16.out.cell 2; have b3 := HB16.out.cell 3; have r0 := HB06.out.cell 0; have r1 := HB06.out.cell 1; have r2 := HB06.out.cell 2; have r3 := HB06.out.cell 3; have rf := HB06.out.frozen; have bf := HB16.out.frozen; simp at b0 b1 b2 b3 r0 r1 r2 r3; clear ha6 ho6)
                | (go_at_call 100; refine (HRS.out _ HA6.out HB16.out).mono ?_; rintro e w7 ⟨rfl, ha7, ho7, A, l, c, hB7, hown⟩; have HA7 := hide ha7; clear b0 b1 b2 b3 r0 r1 r2 r3 rf bf; have HB07 := hide (HB06.out.only ho7 (by simp; omega)); have HB17 := hide hB7; have HO7 := hide (((HO6.out.mono (S' := [g, b]) (by simp)).trans ho7).mono (S' := [g]) (by simp; omega)); have HOW := hide hown; have HSZ := hide HB16.out.lt; have b0 := HB17.out.cell 0; have b1 := HB17.out.cell 1; have b2 := HB17.out.cell 2; have b3 := HB17.out.cell 3; have r0 := HB07.out.cell 0; have r1 := HB07.out.cell 1; have r2 := HB07.out.cell 2; have r3 := HB07.out.cell 3; have rf := HB07.out.frozen; have bf := HB17.out.frozen; simp at b0 b1 b2 b3 r0 r1 r2 r3; clear ha7 ho7 hB7 hown))
              refine bodyPost_ret (results_cell_row rfl _ _ w.heap.size 99 _ (0, 0) _ rfl (fin_blk HB07.out) Try.underlying99 rfl (by kernel_rfl)) rfl ?_
              refine read_yes HR.out hgl HA7.out HO7.out (fun N _ => Rd.nil _ N) (fun hk N hN => ?_)
              have h := HOW.out
              rw [if_pos hk] at h
              exact (Rd.of_own h (fun x hx => by have := hN x hx; have := HSZ.out; omega)).1
end
section
open Go.RowKit Go.Deep

theorem term_all (s : ByteArray) : ∀ f, TSaid s f := by
  intro f
  induction f using Nat.strongRecOn with
  | _ f ih =>
    cases f with
    | zero => intro w g p keep _ _ _ h; omega
    | succ f => exact read_any s f (rest_any s f fun f' h => ih f' (by omega))

theorem catch_idle (p q : Addr) (w : World) :
    CallsD Try.prog 73 #[.pointer (some p), .pointer (some q)] .returning w fun e u' w' => e = .returned (.tuple #[]) ∧ u' = .returning ∧ w' = w := by
  refine callsD_of_wpS Try.func73 rfl fun c₀ cs hu => ?_
  apply wpS_seq
  apply wpS_region
  simp [wpOpsS, go_sem, recoverD, hu, Try.ntmps73, Exit.thenS]
  apply wpS_seq
  apply wpS_region
  simp [wpOpsS, go_sem, Exit.thenS]
  refine wpS_cond (t := false) (by simp [Act.eval, Array.replicate]) ?_
  simp only [Bool.false_eq_true, if_false]
  refine wpS_of_wp (wp_skip ?_)
  cases c₀
  simp_all [bodyPostS, results, Try.results73]

theorem catch_panicking (B C : Nat) (u : TypeId) (pv a b c d x : Value) (tb : TypeId) (older : List PanicEntry) (w : World) (hB : Blk w B 99 #[a, b, c, d]) (hC : Blk w C tb #[x]) (hne : B ≠ C) :
    CallsD Try.prog 73 #[.pointer (some ⟨B, 0, none⟩), .pointer (some ⟨C, 0, none⟩)] (.panicking ({ v := .iface u pv, recovered := false } :: older)) w fun e u' w' =>
      e = .returned (.tuple #[]) ∧ u' = .panicking ({ v := .iface u pv, recovered := true } :: older) ∧ w' = (fin B 0 0 (.slice none 0 0) (.slice none 0 0) w).setCell ⟨C, 0, none⟩ (.bool false) := by
  have b0 := hB.cell 0
  have b1 := hB.cell 1
  have b2 := hB.cell 2
  have b3 := hB.cell 3
  have bf := hB.frozen
  have c0 := hC.cell 0
  have cf := hC.frozen 0
  simp at b0 b1 b2 b3 c0
  refine callsD_of_wpS Try.func73 rfl fun c₀ cs hu => ?_
  apply wpS_seq
  apply wpS_region
  simp [wpOpsS, go_sem, recoverD, hu, Try.ntmps73, Exit.thenS]
  apply wpS_seq
  apply wpS_region
  simp [wpOpsS, go_sem, Exit.thenS]
  refine wpS_cond (t := true) (by simp [Act.eval, Array.replicate]) ?_
  simp only [if_true]
  apply wpS_region
  simp [wpOpsS, go_sem, b0, b1, b2, b3, bf, c0, cf, bodyPostS, results, Try.results73]
  rfl

/-- A text as a term as a whole. -/
def parseV (s : ByteArray) : Option Nd :=
  if 65536 < s.size then none else
    match rd s (2 * s.size + 2) none 0 with
    | none => none
    | some (nd, q) => if q = s.size then some nd else none
def nd0 : Value := .agg #[.int .i64 0, .int .u64 0, .slice none 0 0, .slice none 0 0]
def ParsePost (r : Option Nd) (w : World) (e : Ending) (w' : World) : Prop :=
  match r with
  | none => e = .returned (.tuple #[nd0, .bool false]) ∧ Only [] w w'
  | some nd => ∃ bv pv, e = .returned (.tuple #[.agg #[.int .i64 nd.1, .int .u64 nd.2.1, bv, pv], .bool true]) ∧ Only [] w w' ∧
      (∀ N : List Nat, (∀ x ∈ N, x < w.heap.size) → Rd w' N bv (ints .u8 (byts nd.2.2.1))) ∧ (∀ N : List Nat, (∀ x ∈ N, x < w.heap.size) → Rd w' N pv (strs nd.2.2.2))
theorem parse_no {r : Option Nd} {w w' : World} (h : r = none) (ho : Only [] w w') : ParsePost r w (.returned (.tuple #[nd0, .bool false])) w' := by
  subst h; exact ⟨rfl, ho⟩

theorem parse_yes {r : Option Nd} {w w' : World} {k : Int} {n : Nat} {bs : List UInt8} {parts : List ByteArray} {bv pv : Value} (h : r = some (k, n, bs, parts)) (ho : Only [] w w')
    (hb : ∀ N : List Nat, (∀ x ∈ N, x < w.heap.size) → Rd w' N bv (ints .u8 (byts bs))) (hp : ∀ N : List Nat, (∀ x ∈ N, x < w.heap.size) → Rd w' N pv (strs parts)) :
    ParsePost r w (.returned (.tuple #[.agg #[.int .i64 k, .int .u64 n, bv, pv], .bool true])) w' := by
  subst h; exact ⟨_, _, rfl, ho, hb, hp⟩
def zs4 : Array Value := #[.int .i64 0, .int .u64 0, .slice none 0 0, .slice none 0 0]
set_option maxRecDepth 100000 in
set_option maxHeartbeats 3200000 in
theorem parse_any (w : World) (s : ByteArray) (hs : s.size ≤ maxLen) : Calls Try.prog 64 #[.string s] w (ParsePost (parseV s) w) := by
  unfold maxLen at hs
  have hmf : ∀ (fn : Fn) (first cap : Array Value) (w : World), (Instr.makeFunc fn first cap).run Try.prog w = .ok (.func fn first cap) w := fun _ _ _ _ => rfl
  by_cases hlt : 65536 < s.size
  · have hltI : (65536 : Int) < s.size := by omega
    have HR := hide (show parseV s = none by unfold parseV; rw [if_pos hlt])
    have HO := hide (((Only.refl [] w).alloc (.cells zs4 99)).alloc (.cells #[.bool false] 4))
    clear hlt
    go_enter_defers Try.func64, Try.ntmps64
    go_wp2_with fail
    simp [Leaves, results, Try.results64, go_sem, bodyPostD]
    exact parse_no HR.out HO.out
  · have hltI : ¬ (65536 : Int) < s.size := by omega
    have HT := hide (fun W h => term_all s (2 * s.size + 2) W (w.heap.size + 1 + 1) 0 true h (Nat.zero_le _) (by omega) (by omega))
    have HV := hide (show parseV s = match rd s (2 * s.size + 2) none 0 with | none => none | some (nd, q) => if q = s.size then some nd else none by unfold parseV; rw [if_neg hlt])
    have HO := hide ((((Only.refl [] w).alloc (.cells zs4 99)).alloc (.cells #[.bool false] 4)).alloc (.cells #[.string s, .int .i64 0] 113))
    have HB := hide (((Blk.new w 99 zs4).alloc (.cells #[.bool false] 4)).alloc (.cells #[.string s, .int .i64 0] 113))
    have HC := hide (show Blk (((w.alloc (.cells zs4 99)).alloc (.cells #[.bool false] 4)).alloc (.cells #[.string s, .int .i64 0] 113)) (w.heap.size + 1) 4 #[.bool false] by
      have h := (Blk.new (w.alloc (.cells zs4 99)) 4 #[.bool false]).alloc (.cells #[.string s, .int .i64 0] 113)
      simpa using h)
    have HA := hide (show At (w.heap.size + 1 + 1) s 0 (((w.alloc (.cells zs4 99)).alloc (.cells #[.bool false] 4)).alloc (.cells #[.string s, .int .i64 0] 113)) by
      have h := Blk.new ((w.alloc (.cells zs4 99)).alloc (.cells #[.bool false] 4)) 113 #[.string s, .int .i64 0]
      simpa [At] using h)
    unfold zs4 at HO HB HC HA
    cases hr : rd s (2 * s.size + 2) none 0 with
    | none =>
      have HR := hide (show parseV s = none by rw [HV.out, hr])
      rw [hr] at HT
      clear hr
      go_enter_defers Try.func64, Try.ntmps64
      go_wp2_with (go_at_call 74; refine (HT.out _ HA.out).mono ?_; rintro e w4 ⟨rfl, ho4⟩)
      have HB4 := hide (HB.out.only ho4 (by simp; omega))
      have HC4 := hide (HC.out.only ho4 (by simp))
      refine leaves_cons (f := 73) (args := #[.pointer (some ⟨w.heap.size, 0, none⟩), .pointer (some ⟨w.heap.size + 1, 0, none⟩)]) (by simp) (by simp [go_sem]) ?_
      refine (catch_panicking w.heap.size (w.heap.size + 1) _ _ _ _ _ _ _ _ [] _ HB4.out HC4.out (by omega)).mono ?_
      rintro e u' w5 ⟨rfl, rfl, hw⟩
      have HB5 := hide (show Blk w5 w.heap.size 99 #[.int .i64 0, .int .u64 0, .slice none 0 0, .slice none 0 0] by rw [hw]; exact (fin_blk (n := 0) HB4.out).far (p := ⟨w.heap.size + 1, 0, none⟩) (by simp) _)
      have HC5 := hide (show Blk w5 (w.heap.size + 1) 4 #[.bool false] by rw [hw]; exact (HC4.out.only (fin_only _ _ _ _ _ _) (by simp)).set_ 0 _)
      have HO5 := hide (show Only [] w w5 by rw [hw]; exact ((((HO.out.mono (by simp)).trans (ho4.mono (S' := [w.heap.size + 1 + 1]) (by simp)) |>.mono (S' := [w.heap.size, w.heap.size + 1 + 1]) (by simp)).trans ((fin_only w.heap.size 0 0 (.slice none 0 0) (.slice none 0 0) _).mono (by simp))).setCell (p := ⟨w.heap.size + 1, 0, none⟩) (.inr (by simp)) _).mono (by simp; omega))
      have d0 := HB5.out.cell 0
      have d1 := HB5.out.cell 1
      have d2 := HB5.out.cell 2
      have d3 := HB5.out.cell 3
      have e0 := HC5.out.cell 0
      simp at d0 d1 d2 d3 e0
      clear hw
      simp [Leaves, settle, results, Try.results64, go_sem, d0, d1, d2, d3, e0]
      exact parse_no HR.out HO5.out
    | some r =>
      obtain ⟨⟨k, n, bs, parts⟩, q⟩ := r
      rw [hr] at HT
      have hqs := (rd_bd s _ _ _ _ _ hr).2
      have RD : True := trivial
      by_cases hq : q = s.size
      · have HR := hide (show parseV s = some (k, n, bs, parts) by rw [HV.out, hr]; simp only; rw [if_pos hq])
        have hqb : ((q : Int) != (s.size : Int)) = false := by rw [bne_eq_false_iff_eq]; omega
        clear hr hq
        go_enter_defers Try.func64, Try.ntmps64
        go_wp2_with (go_at_call 74; refine (HT.out _ HA.out).mono ?_; rintro e w4 ⟨bv, pv, rfl, ha4, ho4, hb4, hp4⟩; obtain ⟨A, cap, rfl, _, _⟩ := (hb4 [] (by simp)).formb; obtain ⟨A2, cap2, rfl, _, _⟩ := (hp4 rfl [] (by simp)).form; have HRB := hide hb4; have HRP := hide (hp4 rfl); have HB4 := hide (HB.out.only ho4 (by simp; omega)); have HC4 := hide (HC.out.only ho4 (by simp)); have HO4 := hide ((HO.out.mono (S' := [w.heap.size + 1 + 1]) (by simp)).trans ho4); have HB6 := hide (fin_blk (k := k) (n := n) (bv := .slice A bs.length cap) (pv := .slice A2 (strs parts).length cap2) HB4.out); have HC6 := hide (HC4.out.only (fin_only w.heap.size k n (.slice A bs.length cap) (.slice A2 (strs parts).length cap2) w4) (by simp)); have HO6 := hide ((HO4.out.mono (S' := [w.heap.size, w.heap.size + 1 + 1]) (by simp)).trans ((fin_only w.heap.size k n (.slice A bs.length cap) (.slice A2 (strs parts).length cap2) w4).mono (by simp))); have k1 := ha4.cell 1; have b0 := HB4.out.cell 0; have b1 := HB4.out.cell 1; have b2 := HB4.out.cell 2; have b3 := HB4.out.cell 3; have bf := HB4.out.frozen; have c0 := HC4.out.cell 0; have cf := HC4.out.frozen 0; simp at k1 b0 b1 b2 b3 c0; clear ha4 ho4 hb4 hp4)
        refine leaves_cons (f := 73) (args := #[.pointer (some ⟨w.heap.size, 0, none⟩), .pointer (some ⟨w.heap.size + 1, 0, none⟩)]) (by simp) (by simp [go_sem]) ?_
        refine (catch_idle _ _ _).mono ?_
        rintro e u' w5 ⟨rfl, rfl, hw⟩
        have HF := hide (fin_only w.heap.size k n (.slice A bs.length cap) (.slice A2 (strs parts).length cap2) (fin w.heap.size k n (.slice A bs.length cap) (.slice A2 (strs parts).length cap2) w4))
        have HW5 := hide (show w5 = (fin w.heap.size k n (.slice A bs.length cap) (.slice A2 (strs parts).length cap2) (fin w.heap.size k n (.slice A bs.length cap) (.slice A2 (strs parts).length cap2) w4)).setCell ⟨w.heap.size + 1, 0, none⟩ (.bool true) from hw)
        clear hw
        have HB5 := hide (show Blk w5 w.heap.size 99 #[.int .i64 k, .int .u64 n, .slice A bs.length cap, .slice A2 (strs parts).length cap2] by rw [HW5.out]; exact (fin_blk HB6.out).far (p := ⟨w.heap.size + 1, 0, none⟩) (by simp) _)
        have HC5 := hide (show Blk w5 (w.heap.size + 1) 4 #[.bool true] by rw [HW5.out]; exact (HC6.out.only HF.out (by simp)).set_ 0 _)
        have HO64 := hide (show Only [w.heap.size, w.heap.size + 1] w4 w5 by rw [HW5.out]; exact ((((fin_only w.heap.size k n (.slice A bs.length cap) (.slice A2 (strs parts).length cap2) w4).mono (by simp)).trans (HF.out.mono (by simp))).setCell (p := ⟨w.heap.size + 1, 0, none⟩) (.inl (by simp)) _))
        have HO5 := hide (show Only [] w w5 from ((HO4.out.mono (S' := [w.heap.size, w.heap.size + 1, w.heap.size + 1 + 1]) (by simp)).trans (HO64.out.mono (by simp))).mono (by simp; omega))
        have d0 := HB5.out.cell 0
        have d1 := HB5.out.cell 1
        have d2 := HB5.out.cell 2
        have d3 := HB5.out.cell 3
        have e0 := HC5.out.cell 0
        simp at d0 d1 d2 d3 e0
        simp [Leaves, settle, results, Try.results64, go_sem, d0, d1, d2, d3, e0]
        refine parse_yes HR.out HO5.out (fun N hN => ?_) (fun N hN => ?_)
        · exact ((HRB.out (w.heap.size :: (w.heap.size + 1) :: N) (by intro x hx; simp at hx ⊢; rcases hx with rfl | rfl | hx; omega; omega; have := hN x hx; omega)).only HO64.out (by simp)).less (by intro x hx; simp [hx])
        · exact ((HRP.out (w.heap.size :: (w.heap.size + 1) :: N) (by intro x hx; simp at hx ⊢; rcases hx with rfl | rfl | hx; omega; omega; have := hN x hx; omega)).only HO64.out (by simp)).less (by intro x hx; simp [hx])
      · have HR := hide (show parseV s = none by rw [HV.out, hr]; simp only; rw [if_neg hq])
        have hqb : ((q : Int) != (s.size : Int)) = true := by rw [bne_iff_ne]; omega
        clear hr hq
        go_enter_defers Try.func64, Try.ntmps64
        go_wp2_with (go_at_call 74; refine (HT.out _ HA.out).mono ?_; rintro e w4 ⟨bv, pv, rfl, ha4, ho4, hb4, hp4⟩; obtain ⟨A, cap, rfl, _, _⟩ := (hb4 [] (by simp)).formb; obtain ⟨A2, cap2, rfl, _, _⟩ := (hp4 rfl [] (by simp)).form; have HRB := hide hb4; have HRP := hide (hp4 rfl); have HB4 := hide (HB.out.only ho4 (by simp; omega)); have HC4 := hide (HC.out.only ho4 (by simp)); have HO4 := hide ((HO.out.mono (S' := [w.heap.size + 1 + 1]) (by simp)).trans ho4); have HB6 := hide (fin_blk (k := k) (n := n) (bv := .slice A bs.length cap) (pv := .slice A2 (strs parts).length cap2) HB4.out); have HC6 := hide (HC4.out.only (fin_only w.heap.size k n (.slice A bs.length cap) (.slice A2 (strs parts).length cap2) w4) (by simp)); have HO6 := hide ((HO4.out.mono (S' := [w.heap.size, w.heap.size + 1 + 1]) (by simp)).trans ((fin_only w.heap.size k n (.slice A bs.length cap) (.slice A2 (strs parts).length cap2) w4).mono (by simp))); have k1 := ha4.cell 1; have b0 := HB4.out.cell 0; have b1 := HB4.out.cell 1; have b2 := HB4.out.cell 2; have b3 := HB4.out.cell 3; have bf := HB4.out.frozen; have c0 := HC4.out.cell 0; have cf := HC4.out.frozen 0; simp at k1 b0 b1 b2 b3 c0; clear ha4 ho4 hb4 hp4)
        refine leaves_cons (f := 73) (args := #[.pointer (some ⟨w.heap.size, 0, none⟩), .pointer (some ⟨w.heap.size + 1, 0, none⟩)]) (by simp) (by simp [go_sem]) ?_
        refine (catch_panicking w.heap.size (w.heap.size + 1) _ _ _ _ _ _ _ _ [] _ HB6.out HC6.out (by omega)).mono ?_
        rintro e u' w5 ⟨rfl, rfl, hw⟩
        have HB5 := hide (show Blk w5 w.heap.size 99 #[.int .i64 0, .int .u64 0, .slice none 0 0, .slice none 0 0] by rw [hw]; exact (fin_blk (n := 0) HB6.out).far (p := ⟨w.heap.size + 1, 0, none⟩) (by simp) _)
        have HC5 := hide (show Blk w5 (w.heap.size + 1) 4 #[.bool false] by rw [hw]; exact (HC6.out.only (fin_only _ _ _ _ _ _) (by simp)).set_ 0 _)
        have HO5 := hide (show Only [] w w5 by rw [hw]; exact (((HO6.out.mono (S' := [w.heap.size, w.heap.size + 1 + 1]) (by simp)).trans ((fin_only w.heap.size 0 0 (.slice none 0 0) (.slice none 0 0) _).mono (by simp))).setCell (p := ⟨w.heap.size + 1, 0, none⟩) (.inr (by simp)) _).mono (by simp; omega))
        have d0 := HB5.out.cell 0
        have d1 := HB5.out.cell 1
        have d2 := HB5.out.cell 2
        have d3 := HB5.out.cell 3
        have e0 := HC5.out.cell 0
        simp at d0 d1 d2 d3 e0
        clear hw
        simp [Leaves, settle, results, Try.results64, go_sem, d0, d1, d2, d3, e0]
        exact parse_no HR.out HO5.out
end
section
open Go.RowKit Go.Deep

def kindT (s : ByteArray) : Int := match parseV s with | none => 0 | some nd => nd.1
def KindPost (s : ByteArray) (w : World) (e : Ending) (w' : World) : Prop := e = .returned (.int .i64 (kindT s)) ∧ Only [] w w'
theorem kindpost {s : ByteArray} {k : Int} {w w' : World} (h : kindT s = k) (ho : Only [] w w') : KindPost s w (.returned (.int .i64 k)) w' := by subst h; exact ⟨rfl, ho⟩

set_option maxRecDepth 100000 in
set_option maxHeartbeats 3200000 in
theorem Kind_any (w : World) (s : ByteArray) (hs : s.size ≤ maxLen) : Calls Try.prog 39 #[.string s] w (KindPost s w) := by
  have HP := hide (parse_any w s hs)
  cases hp : parseV s with
  | none =>
    rw [hp] at HP
    have HV := hide (show kindT s = 0 by unfold kindT; rw [hp])
    clear hp
    go_enter Try.func39, Try.ntmps39
    go_wp2_with (go_at_call 64; refine HP.out.mono ?_; rintro e w1 ⟨rfl, ho⟩; unfold nd0; have HO := hide ho; clear ho)
    go_ret
    exact kindpost HV.out (HO.out.alloc _)
  | some nd =>
    obtain ⟨k, n, bs, parts⟩ := nd
    rw [hp] at HP
    have HV := hide (show kindT s = k by unfold kindT; rw [hp])
    clear hp
    go_enter Try.func39, Try.ntmps39
    go_wp2_with (go_at_call 64; refine HP.out.mono ?_; rintro e w1 ⟨bv, pv, rfl, ho, hb, hp⟩; obtain ⟨A, cap, rfl, _, _⟩ := (hb [] (by simp)).formb; obtain ⟨A2, cap2, rfl, _, _⟩ := (hp [] (by simp)).form; have HO := hide ho; clear ho hb hp)
    go_ret
    exact kindpost HV.out (HO.out.alloc _)
end
section
open Go.RowKit Go.Deep Go.Maps Go.WideMaps

def del2 (c : UInt8) : Bool := c == 44 || c == 41
/-- The end of the letters that begin at p. -/
def send (s : ByteArray) (p : Nat) : Nat := p + ((s.data.toList.drop p).takeWhile fun c => !del2 c).length
theorem send_end (s : ByteArray) (p : Nat) (h : s.size ≤ p) : send s p = p := by
  unfold send; rw [List.drop_of_length_le (by simpa using h)]; simp
theorem send_stop (s : ByteArray) (p : Nat) (h : p < s.size) (hd : del2 s[p] = true) : send s p = p := by
  unfold send; rw [drop_at s p h]; simp [hd]
theorem send_step (s : ByteArray) (p : Nat) (h : p < s.size) (hd : del2 s[p] = false) : send s (p + 1) = send s p := by
  unfold send; rw [drop_at s p h]; simp [hd]; omega
theorem send_ge (s : ByteArray) (p : Nat) : p ≤ send s p := Nat.le_add_right _ _
theorem send_le (s : ByteArray) (p : Nat) (h : p ≤ s.size) : send s p ≤ s.size := by
  unfold send
  have h1 : ((s.data.toList.drop p).takeWhile fun c => !del2 c).length ≤ (s.data.toList.drop p).length := (List.takeWhile_sublist _).length_le
  have h2 : (s.data.toList.drop p).length = s.size - p := by rw [List.length_drop]; rfl
  omega
theorem del2_false {c : UInt8} (h : del2 c = false) : ((c.toNat : Int) != 44) = true ∧ ((c.toNat : Int) != 41) = true := by
  unfold del2 at h
  simp only [Bool.or_eq_false_iff] at h
  exact ⟨ne_of_nat (n := 44) h.1 (by decide), ne_of_nat (n := 41) h.2 (by decide)⟩
theorem del2_true {c : UInt8} (h : del2 c = true) : ((c.toNat : Int) != 44) = false ∨ (((c.toNat : Int) != 44) = true ∧ ((c.toNat : Int) != 41) = false) := by
  unfold del2 at h
  simp only [Bool.or_eq_true, beq_iff_eq] at h
  rcases h with h | h
  · subst h; exact .inl rfl
  · subst h; exact .inr ⟨rfl, rfl⟩
/-- The maker of a knowledge stands at p of a text. -/
def KAt (g : Nat) (kv : Option Addr) (s : ByteArray) (p : Nat) (w : World) : Prop := Blk w g 105 #[.pointer kv, .string s, .int .i64 p]
def SkipPost (g : Nat) (kv : Option Addr) (s : ByteArray) (p : Nat) (w : World) (e : Ending) (w' : World) : Prop := e = .returned (.tuple #[]) ∧ KAt g kv s (send s p) w' ∧ Only [g] w w'
theorem skip_end {g : Nat} {kv : Option Addr} {s : ByteArray} {p j : Nat} {w w' : World} (h : send s p = j) (hb : KAt g kv s j w') (ho : Only [g] w w') : SkipPost g kv s p w (.returned (.tuple #[])) w' := by
  subst h; exact ⟨rfl, hb, ho⟩
set_option maxRecDepth 100000 in
set_option maxHeartbeats 6400000 in
theorem skip_any (w : World) (g : Nat) (kv : Option Addr) (s : ByteArray) (p : Nat) (hb : KAt g kv s p w) (hp : p ≤ s.size) (hs : s.size ≤ maxLen) :
    Calls Try.prog 75 #[.pointer (some ⟨g, 0, none⟩)] w (SkipPost g kv s p w) := by
  unfold maxLen at hs
  have HB := hide hb
  clear hb
  go_enter Try.func75, Try.ntmps75
  go_wp2_with fail
  go_loopg [] (s.size - p) (fun gk wr => ∃ j : Nat, p ≤ j ∧ j ≤ s.size ∧ gk + j = s.size ∧ Hid (send s j = send s p) ∧ Hid (KAt g kv s j wr) ∧ Hid (Only [g] w wr))
  case atStart => exact ⟨p, Nat.le_refl _, hp, by omega, hide rfl, HB, hide (Only.refl _ _)⟩
  case round =>
    obtain ⟨j, hpj, hj, hgk, hw, HA, HO⟩ := hrel
    have k1 := HA.out.cell 1
    have k2 := HA.out.cell 2
    have f2 := HA.out.frozen 2
    simp at k1 k2
    have HG := hide hgk
    clear hgk
    by_cases hlt : j < s.size
    · have hlt' : (j : Int) < s.size := by omega
      have hd : decide (j < s.size) = true := decide_eq_true hlt
      cases hc : del2 s[j] with
      | false =>
        have HS := hide (send_step s j hlt hc)
        obtain ⟨h1, h2⟩ := del2_false hc
        clear hc
        go_wp2_with fail
        go_quiet (fail)
        go_wp2_with fail
        go_roundg (gk - 1)
        case rel => exact ⟨j + 1, by omega, by omega, by have := HG.out; omega, hide (HS.out.trans hw.out), hide (HA.out.drewN _ |>.set_ 2 _), hide ((HO.out.drewN _).setCell (p := ⟨g, 2, none⟩) (.inl (by simp)) _)⟩
        case measure => have := HG.out; omega
      | true =>
        have HS := hide ((send_stop s j hlt hc).symm.trans hw.out).symm
        rcases del2_true hc with h1 | ⟨h1, h2⟩
        all_goals
          clear hc
          go_wp2_with fail
          go_quiet (fail)
          go_wp2_with fail
          refine bodyPost_end (results_none rfl _ _ _) rfl ?_
          exact skip_end HS.out (HA.out.drewN _) (HO.out.drewN _)
    · have hlt' : ¬ (j : Int) < s.size := by omega
      have hd : decide (j < s.size) = false := decide_eq_false hlt
      have HS := hide ((send_end s j (by omega)).symm.trans hw.out).symm
      go_wp2_with fail
      go_quiet (fail)
      go_wp2_with fail
      refine bodyPost_end (results_none rfl _ _ _) rfl ?_
      exact skip_end HS.out (HA.out.drewN _) (HO.out.drewN _)
end
section
open Go.RowKit Go.Deep Go.Maps Go.WideMaps

def hadB (D : DataW Unit) (s : ByteArray) : Bool := match D.atKey (.string s.data.toList) (.lit (.bool false)) with
  | .lit (.bool b) => b
  | _ => false
theorem plainElem_bool_inv {H : Type} {P : Program} {e : TypeId} (he : P.underlying e = some .bool) {v : Value} {z : DataW H × List MemPlace} (h : plainElem P e v = some z) : ∃ b, v = .bool b ∧ z = (.lit (.bool b), []) := by
  unfold plainElem at h
  rw [he] at h
  cases v <;> simp at h
  exact ⟨_, rfl, h.symm⟩
/-- Block m holds the terms that are had. -/
def Had (m n : Nat) (D : DataW Unit) (w : World) : Prop := w.ownsMap Try.prog 9 (plainElem Try.prog 4) m n D
theorem Had.only {S : List Nat} {m n : Nat} {D : DataW Unit} {w w' : World} (h : Had m n D w) (ho : Only S w w') (hm : m ∉ S) : Had m n D w' := by
  have hlt := World.ownsMap.lt h
  obtain ⟨es, clock, hb, F, hs, hD⟩ := h
  exact ⟨es, clock, (ho.block m hlt hm).trans hb, F, hs, hD⟩
theorem Had.run {m n : Nat} {D : DataW Unit} {w : World} (h : Had m n D w) (s : ByteArray) (hs : s.size ≤ maxLen) : (Instr.lookup 83 (.map (some m)) (.string s) false).run Try.prog w = .ok (.bool (hadB D s)) w := by
  obtain ⟨v, ps, hrun, hv⟩ := World.ownsMap.lookup h (string_keyed Try.underlying9) Try.underlying83 (z := .bool false) (by kernel_rfl) (plainElem_bool Try.underlying4 false) (keyOf_string_mk Try.underlying9 hs)
  obtain ⟨b, rfl, hz⟩ := plainElem_bool_inv Try.underlying4 hv
  rw [hrun]
  have h1 := congrArg Prod.fst hz
  unfold hadB
  simp only at h1
  rw [h1]
/-- A knowledge in block k, its terms in block m. -/
def KnowIs (k m n sb : Nat) (D : DataW Unit) (keys : Value) (w : World) : Prop := Blk w k 86 #[.map (some m), .map (some sb), keys] ∧ Had m n D w
theorem KnowIs.only {S : List Nat} {k m n sb : Nat} {D : DataW Unit} {keys : Value} {w w' : World} (h : KnowIs k m n sb D keys w) (ho : Only S w w') (hk : k ∉ S) (hm : m ∉ S) : KnowIs k m n sb D keys w' := ⟨h.1.only ho hk, h.2.only ho hm⟩
def ReadKPost (g : Nat) (kv : Option Addr) (s : ByteArray) (p : Nat) (b : Bool) (w : World) (e : Ending) (w' : World) : Prop := e = .returned (.bool b) ∧ KAt g kv s p w' ∧ Only [g] w w'
set_option maxRecDepth 100000 in
set_option maxHeartbeats 6400000 in
theorem read_zero (w : World) (g : Nat) (kv : Option Addr) (s : ByteArray) (p : Nat) (hb : KAt g kv s p w) (hp : p < s.size) (hs : s.size ≤ maxLen) (hc : ((s[p].toNat : Int) == 48) = true) :
    Calls Try.prog 67 #[.pointer (some ⟨g, 0, none⟩)] w (ReadKPost g kv s (p + 1) true w) := by
  unfold maxLen at hs
  have HB := hide hb
  have k1 := hb.cell 1
  have k2 := hb.cell 2
  have f2 := hb.frozen 2
  simp at k1 k2
  clear hb
  have hlt' : (p : Int) < s.size := by omega
  go_enter Try.func67, Try.ntmps67
  go_wp2_with fail
  go_quiet (fail)
  go_wp2_with fail
  go_ret
  exact ⟨rfl, HB.out.drewN _ |>.set_ 2 _, ((Only.refl [g] w).drewN _).setCell (p := ⟨g, 2, none⟩) (.inl (by simp)) _⟩
set_option maxRecDepth 100000 in
set_option maxHeartbeats 6400000 in
theorem read_atom (w : World) (g k m n sb : Nat) (D : DataW Unit) (keys : Value) (s : ByteArray) (p : Nat) (hb : KAt g (some ⟨k, 0, none⟩) s p w) (hk : KnowIs k m n sb D keys w) (hkg : k ≠ g) (hmg : m ≠ g) (hp : p < s.size) (hs : s.size ≤ maxLen)
    (h48 : ((s[p].toNat : Int) == 48) = false) (h110 : ((s[p].toNat : Int) == 110) = false) (h120 : ((s[p].toNat : Int) == 120) = false) (h97 : ((s[p].toNat : Int) == 97) = true) (h97b : ((s[p].toNat : Int) != 97) = false) :
    Calls Try.prog 67 #[.pointer (some ⟨g, 0, none⟩)] w (ReadKPost g (some ⟨k, 0, none⟩) s (send s (p + 1)) (hadB D (s.extract p (send s (p + 1)))) w) := by
  unfold maxLen at hs
  have HB := hide hb
  have HKN := hide hk
  have HSK := hide (fun W h => skip_any W g (some ⟨k, 0, none⟩) s (p + 1) h hp (by unfold maxLen; exact hs))
  unfold SkipPost at HSK
  have hj1 := send_ge s (p + 1)
  have hj2 := send_le s (p + 1) hp
  obtain ⟨j, hj⟩ : ∃ j, j = send s (p + 1) := ⟨_, rfl⟩
  rw [← hj] at HSK hj1 hj2 ⊢
  clear hj
  have k1 := hb.cell 1
  have k2 := hb.cell 2
  have f2 := hb.frozen 2
  simp at k1 k2
  clear hb hk
  have hlt' : (p : Int) < s.size := by omega
  have hpj : p ≤ j := by omega
  have hex : (s.extract p j).size ≤ maxLen := by unfold maxLen; rw [ByteArray.size_extract]; omega
  go_enter Try.func67, Try.ntmps67
  go_wp2_with fail
  go_quiet (fail)
  go_upto_region 11 with (go_at_call 75; refine (HSK.out _ (HB.out.drewN _ |>.set_ 2 _)).mono ?_; rintro e w1 ⟨rfl, hk1, ho⟩; have HO := hide ((((Only.refl [g] w).drewN _).setCell (p := ⟨g, 2, none⟩) (.inl (by simp)) _).trans ho); replace HKN := hide (HKN.out.only HO.out (by simp; exact hkg) (by simp; exact hmg)); replace HB := hide hk1; clear ho hk1 k1 k2 f2)
  refine wp_region_held_drew (S := fun W => Only [] w1 W) (by kernel_rfl) (by exact (Only.refl [] w1).drew) (fun hHeld => ?_)
  refine wpAnyH_take (i := 0) (v := ?_) rfl (by kernel_rfl) (by kernel_rfl) (by kernel_rfl) (fun _ _ _ h => h) (Or.inl ⟨by rfl, ?_⟩) (by assumption) ?_
  rotate_left
  · (intro w hSw; (try dsimp only at hSw); go_simp; try with_reducible rfl)
  try simp only [List.getElem_toArray, List.getElem_cons_succ, List.getElem_cons_zero, Act.put, List.setIfInBounds_toArray, List.set_cons_zero, List.set_cons_succ]
  refine wpAnyH_take (i := 1) (v := ?_) rfl (by kernel_rfl) (by kernel_rfl) (by kernel_rfl) (fun _ _ _ h => h) (Or.inl ⟨by rfl, ?_⟩) (by assumption) ?_
  rotate_left
  · (intro w hSw; (try dsimp only at hSw); go_simp; try with_reducible rfl)
  try simp only [List.getElem_toArray, List.getElem_cons_succ, List.getElem_cons_zero, Act.put, List.setIfInBounds_toArray, List.set_cons_zero, List.set_cons_succ]
  refine wpAnyH_take (i := 2) (v := ?_) rfl (by kernel_rfl) (by kernel_rfl) (by kernel_rfl) (fun _ _ _ h => h) (Or.inl ⟨by rfl, ?_⟩) (by assumption) ?_
  rotate_left
  · (intro w hSw; (try dsimp only at hSw); go_simp; try with_reducible rfl)
  try simp only [List.getElem_toArray, List.getElem_cons_succ, List.getElem_cons_zero, Act.put, List.setIfInBounds_toArray, List.set_cons_zero, List.set_cons_succ]
  refine wpAnyH_take (i := 3) (v := ?_) rfl (by kernel_rfl) (by kernel_rfl) (by kernel_rfl) (fun _ _ _ h => h) (Or.inl ⟨by rfl, ?_⟩) (by assumption) ?_
  rotate_left
  · (intro w hSw; (try dsimp only at hSw); go_simp; try with_reducible rfl)
  try simp only [List.getElem_toArray, List.getElem_cons_succ, List.getElem_cons_zero, Act.put, List.setIfInBounds_toArray, List.set_cons_zero, List.set_cons_succ]
  refine wpAnyH_take (i := 4) (v := ?_) rfl (by kernel_rfl) (by kernel_rfl) (by kernel_rfl) (fun _ _ _ h => h) (Or.inl ⟨by rfl, ?_⟩) (by assumption) ?_
  rotate_left
  · (intro w hSw; (try dsimp only at hSw); go_simp; try with_reducible rfl)
  try simp only [List.getElem_toArray, List.getElem_cons_succ, List.getElem_cons_zero, Act.put, List.setIfInBounds_toArray, List.set_cons_zero, List.set_cons_succ]
  refine wpAnyH_take (i := 5) (v := ?_) rfl (by kernel_rfl) (by kernel_rfl) (by kernel_rfl) (fun _ _ _ h => h) (Or.inl ⟨by rfl, ?_⟩) (by assumption) ?_
  rotate_left
  · (intro w hSw; (try dsimp only at hSw); go_simp; try with_reducible rfl)
  try simp only [List.getElem_toArray, List.getElem_cons_succ, List.getElem_cons_zero, Act.put, List.setIfInBounds_toArray, List.set_cons_zero, List.set_cons_succ]
  refine wpAnyH_take (i := 6) (v := ?_) rfl (by kernel_rfl) (by kernel_rfl) (by kernel_rfl) (fun _ _ _ h => h) (Or.inl ⟨by rfl, ?_⟩) (by assumption) ?_
  rotate_left
  · (intro w hSw; (try dsimp only at hSw); have hBw := HB.out.only hSw (by simp); have hKw := HKN.out.only hSw (by simp) (by simp); have q0 := hBw.cell 0; have q1 := hBw.cell 1; have q2 := hBw.cell 2; have r0 := hKw.1.cell 0; simp at q0 q1 q2 r0; go_simp; try with_reducible rfl)
  try simp only [List.getElem_toArray, List.getElem_cons_succ, List.getElem_cons_zero, Act.put, List.setIfInBounds_toArray, List.set_cons_zero, List.set_cons_succ]
  refine wpAnyH_take (i := 7) (v := ?_) rfl (by kernel_rfl) (by kernel_rfl) (by kernel_rfl) (fun _ _ _ h => h) (Or.inl ⟨by rfl, ?_⟩) (by assumption) ?_
  rotate_left
  · (intro w hSw; (try dsimp only at hSw); go_simp; try with_reducible rfl)
  try simp only [List.getElem_toArray, List.getElem_cons_succ, List.getElem_cons_zero, Act.put, List.setIfInBounds_toArray, List.set_cons_zero, List.set_cons_succ]
  refine wpAnyH_take (i := 8) (v := ?_) rfl (by kernel_rfl) (by kernel_rfl) (by kernel_rfl) (fun _ _ _ h => h) (Or.inl ⟨by rfl, ?_⟩) (by assumption) ?_
  rotate_left
  · (intro w hSw; (try dsimp only at hSw); go_simp; try with_reducible rfl)
  try simp only [List.getElem_toArray, List.getElem_cons_succ, List.getElem_cons_zero, Act.put, List.setIfInBounds_toArray, List.set_cons_zero, List.set_cons_succ]
  refine wpAnyH_take (i := 9) (v := ?_) rfl (by kernel_rfl) (by kernel_rfl) (by kernel_rfl) (fun _ _ _ h => h) (Or.inl ⟨by rfl, ?_⟩) (by assumption) ?_
  rotate_left
  · (intro w hSw; (try dsimp only at hSw); have hBw := HB.out.only hSw (by simp); have hKw := HKN.out.only hSw (by simp) (by simp); have q0 := hBw.cell 0; have q1 := hBw.cell 1; have q2 := hBw.cell 2; have r0 := hKw.1.cell 0; simp at q0 q1 q2 r0; go_simp; try with_reducible rfl)
  try simp only [List.getElem_toArray, List.getElem_cons_succ, List.getElem_cons_zero, Act.put, List.setIfInBounds_toArray, List.set_cons_zero, List.set_cons_succ]
  refine wpAnyH_take (i := 10) (v := ?_) rfl (by kernel_rfl) (by kernel_rfl) (by kernel_rfl) (fun _ _ _ h => h) (Or.inl ⟨by rfl, ?_⟩) (by assumption) ?_
  rotate_left
  · (intro w hSw; (try dsimp only at hSw); go_simp; try with_reducible rfl)
  try simp only [List.getElem_toArray, List.getElem_cons_succ, List.getElem_cons_zero, Act.put, List.setIfInBounds_toArray, List.set_cons_zero, List.set_cons_succ]
  refine wpAnyH_take (i := 11) (v := ?_) rfl (by kernel_rfl) (by kernel_rfl) (by kernel_rfl) (fun _ _ _ h => h) (Or.inl ⟨by rfl, ?_⟩) (by assumption) ?_
  rotate_left
  · (intro w hSw; (try dsimp only at hSw); go_simp; try with_reducible rfl)
  try simp only [List.getElem_toArray, List.getElem_cons_succ, List.getElem_cons_zero, Act.put, List.setIfInBounds_toArray, List.set_cons_zero, List.set_cons_succ]
  refine wpAnyH_take (i := 12) (v := ?_) rfl (by kernel_rfl) (by kernel_rfl) (by kernel_rfl) (fun _ _ _ h => h) (Or.inl ⟨by rfl, ?_⟩) (by assumption) ?_
  rotate_left
  · (intro w hSw; (try dsimp only at hSw); go_simp; try with_reducible rfl)
  try simp only [List.getElem_toArray, List.getElem_cons_succ, List.getElem_cons_zero, Act.put, List.setIfInBounds_toArray, List.set_cons_zero, List.set_cons_succ]
  refine wpAnyH_take (i := 13) (v := ?_) rfl (by kernel_rfl) (by kernel_rfl) (by kernel_rfl) (fun _ _ _ h => h) (Or.inl ⟨by rfl, ?_⟩) (by assumption) ?_
  rotate_left
  · (intro w hSw; (try dsimp only at hSw); have hBw := HB.out.only hSw (by simp); have hKw := HKN.out.only hSw (by simp) (by simp); have q0 := hBw.cell 0; have q1 := hBw.cell 1; have q2 := hBw.cell 2; have r0 := hKw.1.cell 0; simp at q0 q1 q2 r0; go_simp; try with_reducible rfl)
  try simp only [List.getElem_toArray, List.getElem_cons_succ, List.getElem_cons_zero, Act.put, List.setIfInBounds_toArray, List.set_cons_zero, List.set_cons_succ]
  refine wpAnyH_take (i := 14) (v := ?_) rfl (by kernel_rfl) (by kernel_rfl) (by kernel_rfl) (fun _ _ _ h => h) (Or.inl ⟨by rfl, ?_⟩) (by assumption) ?_
  rotate_left
  · (intro w hSw; (try dsimp only at hSw); go_simp; try with_reducible rfl)
  try simp only [List.getElem_toArray, List.getElem_cons_succ, List.getElem_cons_zero, Act.put, List.setIfInBounds_toArray, List.set_cons_zero, List.set_cons_succ]
  refine wpAnyH_take (i := 15) (v := ?_) rfl (by kernel_rfl) (by kernel_rfl) (by kernel_rfl) (fun _ _ _ h => h) (Or.inl ⟨by rfl, ?_⟩) (by assumption) ?_
  rotate_left
  · (intro w hSw; (try dsimp only at hSw); go_simp; try with_reducible rfl)
  try simp only [List.getElem_toArray, List.getElem_cons_succ, List.getElem_cons_zero, Act.put, List.setIfInBounds_toArray, List.set_cons_zero, List.set_cons_succ]
  refine wpAnyH_take (i := 16) (v := ?_) rfl (by kernel_rfl) (by kernel_rfl) (by kernel_rfl) (fun _ _ _ h => h) (Or.inl ⟨by rfl, ?_⟩) (by assumption) ?_
  rotate_left
  · (intro w hSw; (try dsimp only at hSw); go_simp; try with_reducible rfl)
  try simp only [List.getElem_toArray, List.getElem_cons_succ, List.getElem_cons_zero, Act.put, List.setIfInBounds_toArray, List.set_cons_zero, List.set_cons_succ]
  refine wpAnyH_take (i := 17) (v := ?_) rfl (by kernel_rfl) (by kernel_rfl) (by kernel_rfl) (fun _ _ _ h => h) (Or.inl ⟨by rfl, ?_⟩) (by assumption) ?_
  rotate_left
  · (intro w hSw; (try dsimp only at hSw); go_simp; try with_reducible rfl)
  try simp only [List.getElem_toArray, List.getElem_cons_succ, List.getElem_cons_zero, Act.put, List.setIfInBounds_toArray, List.set_cons_zero, List.set_cons_succ]
  refine wpAnyH_take (i := 18) (v := ?_) rfl (by kernel_rfl) (by kernel_rfl) (by kernel_rfl) (fun _ _ _ h => h) (Or.inl ⟨by rfl, ?_⟩) (by assumption) ?_
  rotate_left
  · (intro w hSw; (try dsimp only at hSw); have hBw := HB.out.only hSw (by simp); have hKw := HKN.out.only hSw (by simp) (by simp); have q0 := hBw.cell 0; have q1 := hBw.cell 1; have q2 := hBw.cell 2; have r0 := hKw.1.cell 0; simp at q0 q1 q2 r0; go_simp; try with_reducible rfl)
  try simp only [List.getElem_toArray, List.getElem_cons_succ, List.getElem_cons_zero, Act.put, List.setIfInBounds_toArray, List.set_cons_zero, List.set_cons_succ]
  refine wpAnyH_take (i := 19) (v := ?_) rfl (by kernel_rfl) (by kernel_rfl) (by kernel_rfl) (fun _ _ _ h => h) (Or.inl ⟨by rfl, ?_⟩) (by assumption) ?_
  rotate_left
  · (intro w hSw; (try dsimp only at hSw); go_simp; try with_reducible rfl)
  try simp only [List.getElem_toArray, List.getElem_cons_succ, List.getElem_cons_zero, Act.put, List.setIfInBounds_toArray, List.set_cons_zero, List.set_cons_succ]
  refine wpAnyH_take (i := 20) (v := ?_) rfl (by kernel_rfl) (by kernel_rfl) (by kernel_rfl) (fun _ _ _ h => h) (Or.inl ⟨by rfl, ?_⟩) (by assumption) ?_
  rotate_left
  · (intro w hSw; (try dsimp only at hSw); have hKw := HKN.out.only hSw (by simp) (by simp); have hl := hKw.2.run (s.extract p j) hex; go_simp; try with_reducible rfl)
  try simp only [List.getElem_toArray, List.getElem_cons_succ, List.getElem_cons_zero, Act.put, List.setIfInBounds_toArray, List.set_cons_zero, List.set_cons_succ]
  refine wpAnyH_take (i := 21) (v := ?_) rfl (by kernel_rfl) (by kernel_rfl) (by kernel_rfl) (fun _ _ _ h => h) (Or.inl ⟨by rfl, ?_⟩) (by assumption) ?_
  rotate_left
  · (intro w hSw; (try dsimp only at hSw); go_simp; try with_reducible rfl)
  try simp only [List.getElem_toArray, List.getElem_cons_succ, List.getElem_cons_zero, Act.put, List.setIfInBounds_toArray, List.set_cons_zero, List.set_cons_succ]
  refine wpAnyH_take (i := 22) (v := ?_) rfl (by kernel_rfl) (by kernel_rfl) (by kernel_rfl) (fun _ _ _ h => h) (Or.inl ⟨by rfl, ?_⟩) (by assumption) ?_
  rotate_left
  · (intro w hSw; (try dsimp only at hSw); go_simp; try with_reducible rfl)
  try simp only [List.getElem_toArray, List.getElem_cons_succ, List.getElem_cons_zero, Act.put, List.setIfInBounds_toArray, List.set_cons_zero, List.set_cons_succ]
  refine wpAnyH_done (by kernel_rfl) ?_ _
  go_wp2_with fail
  go_ret
  exact ⟨rfl, HB.out.only hHeld (by simp), HO.out.trans (hHeld.mono (by simp))⟩
end
end Go.Proofs.Ytfmfnfmhknlpbaa

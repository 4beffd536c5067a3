/-
  Walks and plain words (texts Tm7). No condition beyond those that each theorem states.
-/
import Derived.Test.YtcokjoidpnfjhaaGreatDoorA04
namespace Go.Proofs.YtcokjoidpnfjhaaGreatDoor
section
open Go.RowKit Go.Deep

theorem read_no {g : Nat} {s : ByteArray} {keep : Bool} {r : Option (Nd × Nat)} {w w' : World} (h : r = none) (ho : Only [g] w w') : ReadPost g s keep r w (.panicked [{ v := .iface 281 (.agg #[]), recovered := false }]) w' := by
  subst h; exact ⟨rfl, ho⟩
/-- The answer stands in the result's block. -/
def fin (B : Nat) (k : Int) (n : Nat) (bv pv : Value) (w : World) : World := (((w.setCell ⟨B, 0, none⟩ (.int .i64 k)).setCell ⟨B, 1, none⟩ (.int .u64 n)).setCell ⟨B, 2, none⟩ bv).setCell ⟨B, 3, none⟩ pv
theorem fin_blk {B t : Nat} {k : Int} {n : Nat} {bv pv a b c d : Value} {w : World} (h : Blk w B t #[a, b, c, d]) : Blk (fin B k n bv pv w) B t #[.int .i64 k, .int .u64 n, bv, pv] := (((h.set_ 0 _).set_ 1 _).set_ 2 _).set_ 3 _
theorem fin_only (B : Nat) (k : Int) (n : Nat) (bv pv : Value) (w : World) : Only [B] w (fin B k n bv pv w) :=
  ((((Only.refl [B] w).setCell (p := ⟨B, 0, none⟩) (.inl (by simp)) _).setCell (p := ⟨B, 1, none⟩) (.inl (by simp)) _).setCell (p := ⟨B, 2, none⟩) (.inl (by simp)) _).setCell (p := ⟨B, 3, none⟩) (.inl (by simp)) _
theorem read_yes {g : Nat} {s : ByteArray} {keep : Bool} {r : Option (Nd × Nat)} {w w' : World} {k : Int} {n q : Nat} {bs : List UInt8} {parts : List ByteArray} {bv pv : Value} (h : r = some ((k, n, bs, parts), q)) (hg : g < w.heap.size) (ha : At g s q w') (ho : Only [g] w w')
    (hb : ∀ N : List Nat, (∀ x ∈ N, x ≤ w.heap.size) → Rd w' N bv (ints .u8 (byts bs))) (hp : keep = true → ∀ N : List Nat, (∀ x ∈ N, x ≤ w.heap.size) → Rd w' N pv (strs parts)) :
    ReadPost g s keep r w (.returned (.agg #[.int .i64 k, .int .u64 n, bv, pv])) (fin w.heap.size k n bv pv w') := by
  subst h
  have hf := fin_only w.heap.size k n bv pv w'
  refine ⟨_, _, rfl, Blk.only ha hf (by simp; omega), ?_, fun N hN => ?_, fun hk N hN => ?_⟩
  · exact (ho.mono (S' := [w.heap.size, g]) (by simp)).trans (hf.mono (by simp)) |>.mono (by simp)
  · exact ((hb (w.heap.size :: N) (by simp; exact fun x hx => Nat.le_of_lt (hN x hx))).only hf (by simp)).less (by simp; exact fun x hx => .inr hx)
  · exact ((hp hk (w.heap.size :: N) (by simp; exact fun x hx => Nat.le_of_lt (hN x hx))).only hf (by simp)).less (by simp; exact fun x hx => .inr hx)
theorem kind_range (c : Int) : 0 ≤ kindV c ∧ kindV c ≤ 11 := by unfold kindV; repeat' split <;> omega

theorem rdEnd_nd {s : ByteArray} {k : Int} {n : Nat} {parts : List ByteArray} {p q : Nat} {nd : Nd} (h : rdEnd s k n parts p = some (nd, q)) : nd.1 = k ∧ nd.2.1 = n ∧ nd.2.2.1 = [] := by
  unfold rdEnd at h
  split at h
  · split at h
    · simp only [Option.some.injEq, Prod.mk.injEq] at h
      rw [← h.1]
      exact ⟨rfl, rfl, rfl⟩
    · cases h
  · cases h
theorem rd_nd (s : ByteArray) : ∀ (f : Nat) (k : Int) (n : Nat) (parts : List ByteArray) (p q : Nat) (nd : Nd), rd s f (some (k, n, parts)) p = some (nd, q) → nd.1 = k ∧ nd.2.1 = n ∧ nd.2.2.1 = [] := by
  intro f
  induction f with
  | zero => intro k n parts p q nd h; simp [rd] at h
  | succ f ih =>
    intro k n parts p q nd h
    rw [rd_some] at h
    split at h
    · cases h
    · split at h
      · cases h
      · split at h
        · exact ih _ _ _ _ _ _ h
        · exact rdEnd_nd h
theorem rd_rest_nd {s : ByteArray} {f : Nat} {k : Int} {n p q : Nat} {nd : Nd} (h : (if peekV s p 41 = true then rdEnd s k n [] p else rd s f (some (k, n, [])) p) = some (nd, q)) : nd.1 = k ∧ nd.2.1 = n ∧ nd.2.2.1 = [] := by
  split at h
  · exact rdEnd_nd h
  · exact rd_nd _ _ _ _ _ _ _ _ h

theorem rd_term (s : ByteArray) (f p : Nat) (h : p < s.size) : rd s (f + 1) none p =
      if kindV s[p].toNat = 0 then none
      else if kindV s[p].toNat = 1 then some ((1, 0, [], []), p + 1)
      else if kindV s[p].toNat = 2 ∨ kindV s[p].toNat = 3 then
        match numK (kindV s[p].toNat) (s.extract (p + 1) (wend s (p + 1))).data.toList with
        | none => none
        | some n => some ((kindV s[p].toNat, n, [], []), wend s (p + 1))
      else if kindV s[p].toNat = 4 then
        if (hexR (s.extract (p + 1) (wend s (p + 1))).data.toList).2 = 0 then some ((4, 0, (hexR (s.extract (p + 1) (wend s (p + 1))).data.toList).1, []), wend s (p + 1)) else none
      else if peekV s (p + 1) 40 = false then none
      else if numberedV (kindV s[p].toNat) = true then
        match numK (kindV s[p].toNat) (s.extract (p + 2) (wend s (p + 2))).data.toList with
        | none => none
        | some n =>
          if peekV s (wend s (p + 2)) 44 = false then none
          else if peekV s (wend s (p + 2) + 1) 41 = true then rdEnd s (kindV s[p].toNat) n [] (wend s (p + 2) + 1)
          else rd s f (some (kindV s[p].toNat, n, [])) (wend s (p + 2) + 1)
      else if peekV s (p + 2) 41 = true then rdEnd s (kindV s[p].toNat) 0 [] (p + 2)
      else rd s f (some (kindV s[p].toNat, 0, [])) (p + 2) := by
  exact dif_pos h

set_option maxRecDepth 100000 in
set_option maxHeartbeats 12800000 in
theorem read_any (s : ByteArray) (f : Nat) (IH : RSaid s f) : TSaid s (f + 1) := by
  intro w g p keep hA hp hs hf
  obtain ⟨R, hR⟩ : ∃ R, R = rd s (f + 1) none p := ⟨_, rfl⟩
  rw [← hR]
  have HR0 := hide hR
  clear hR
  have HIH := hide IH
  have hgl : g < w.heap.size := hA.lt
  have HA := hide (show At g s p (w.alloc (.cells #[.int .i64 0, .int .u64 0, .slice none 0 0, .slice none 0 0] 199)) from hA.alloc _)
  have HB := hide (Blk.new w 199 #[.int .i64 0, .int .u64 0, .slice none 0 0, .slice none 0 0])
  have HO := hide ((Only.refl [g] w).alloc (.cells #[.int .i64 0, .int .u64 0, .slice none 0 0, .slice none 0 0] 199))
  have k0 := HA.out.cell 0
  have k1 := HA.out.cell 1
  simp at k0 k1
  clear hA IH
  by_cases hlt : p < s.size
  case neg =>
    have hge : (s.size : Int) ≤ p := by omega
    have hd : decide (s.size ≤ p) = true := decide_eq_true (by omega)
    have HR := hide (show R = none by rw [HR0.out, rd, dif_neg hlt])
    go_enter Tryz.func183, Tryz.ntmps183
    go_wp2_with fail
    go_quiet (fail)
    go_wp2_with fail
    exact ⟨rfl, read_no HR.out (HO.out.drewN _)⟩
  have hltI : ¬ (s.size : Int) ≤ p := by omega
  have hltI' : (p : Int) < s.size := by omega
  have hd : decide (s.size ≤ p) = false := decide_eq_false (by omega)
  rw [rd_term s f p hlt] at HR0
  obtain ⟨k, hk⟩ : ∃ k, k = kindV s[p].toNat := ⟨_, rfl⟩
  have hkr := kind_range s[p].toNat
  have HKO := hide (fun W => kindOf_any s[p].toNat W)
  rw [← hk] at hkr HKO HR0
  clear hk
  go_enter Tryz.func183, Tryz.ntmps183
  go_wp2_with fail
  go_quiet (fail)
  clear k0 k1
  have HA := hide (HA.out.drewN nq)
  have HB := hide (HB.out.drewN nq)
  have HO := hide (HO.out.drewN nq)
  have hwz : w.heap.size + 1 ≤ ((w.alloc (.cells #[.int .i64 0, .int .u64 0, .slice none 0 0, .slice none 0 0] 199)).drewN nq).heap.size := by simp
  generalize (w.alloc (.cells #[.int .i64 0, .int .u64 0, .slice none 0 0, .slice none 0 0] 199)).drewN nq = wA at *
  have k0 := Blk.cell HA.out 0
  have k1 := Blk.cell HA.out 1
  have z0 := Blk.cell (HA.out.alloc (.cells #[.int .i64 0, .int .u64 0, .slice none 0 0, .slice none 0 0] 199)) 0
  have z1 := Blk.cell (HA.out.alloc (.cells #[.int .i64 0, .int .u64 0, .slice none 0 0, .slice none 0 0] 199)) 1
  have y0 := Blk.cell (HA.out.alloc (.cells #[.int .i64 k, .int .u64 0, .slice none 0 0, .slice none 0 0] 199)) 0
  have y1 := Blk.cell (HA.out.alloc (.cells #[.int .i64 k, .int .u64 0, .slice none 0 0, .slice none 0 0] 199)) 1
  simp at k0 k1 z0 z1 y0 y1
  go_upto_region 3 with (fail)
  go_cut [5] (fun r w' => ∃ b, r = .pointer (some ⟨b, 0, none⟩) ∧ w.heap.size < b ∧ Hid (At g s p w') ∧ Hid (Blk w' w.heap.size 199 #[.int .i64 0, .int .u64 0, .slice none 0 0, .slice none 0 0]) ∧ Hid (Blk w' b 199 #[.int .i64 k, .int .u64 0, .slice none 0 0, .slice none 0 0]) ∧ Hid (Only [g] w w'))
  case first =>
    go_region_held3 (fun w' => w'.cell? ⟨g, 0, none⟩ = some (.string s) ∧ w'.cell? ⟨g, 1, none⟩ = some (.int .i64 p)) (first | exact ⟨k0, k1⟩ | exact ⟨z0, z1⟩ | exact ⟨y0, y1⟩)
      (first | (go_at_call 223; refine (HKO.out _).mono ?_; rintro e w' ⟨rfl, rfl⟩))
    all_goals
      go_wp2_with fail
      go_meet
      exact ⟨_, rfl, hwz, hide ((HA.out.alloc _).drew), hide ((HB.out.alloc _).drew), hide ((Blk.new wA 199 #[.int .i64 k, .int .u64 0, .slice none 0 0, .slice none 0 0]).drew), hide ((HO.out.alloc _).drew)⟩
  case rest =>
    clear k0 k1 z0 z1 y0 y1 HKO hd hltI HA HB HO hwz
    obtain ⟨b, rfl, hbl, HA, HB0, HB1, HO⟩ := hcut
    have hgb : g ≠ b := by omega
    have HML := hide (show s.size ≤ maxLen by unfold maxLen; omega)
    have HA2 := hide (show At g s (p + 1) (wc.setCell ⟨g, 1, none⟩ (.int .i64 ((p : Int) + 1))) from HA.out.set_ 1 _)
    have HB02 := hide (show Blk (wc.setCell ⟨g, 1, none⟩ (.int .i64 ((p : Int) + 1))) w.heap.size 199 _ from HB0.out.far (p := ⟨g, 1, none⟩) (by simp; omega) _)
    have HB12 := hide (show Blk (wc.setCell ⟨g, 1, none⟩ (.int .i64 ((p : Int) + 1))) b 199 _ from HB1.out.far (p := ⟨g, 1, none⟩) (Ne.symm hgb) _)
    have HO2 := hide (HO.out.setCell (p := ⟨g, 1, none⟩) (.inl (by simp)) (.int .i64 ((p : Int) + 1)))
    have k1 := HA.out.cell 1
    have f1 := HA.out.frozen 1
    have b0 := HB12.out.cell 0
    have b1 := HB12.out.cell 1
    have b2 := HB12.out.cell 2
    have b3 := HB12.out.cell 3
    have r0 := HB02.out.cell 0
    have r1 := HB02.out.cell 1
    have r2 := HB02.out.cell 2
    have r3 := HB02.out.cell 3
    have rf := HB02.out.frozen
    have bf := HB12.out.frozen
    simp at k1 b0 b1 b2 b3 r0 r1 r2 r3
    by_cases h0 : k = 0
    · have HR := hide (show R = none by rw [HR0.out, if_pos h0])
      have t0 : (k == 0) = true := by simpa using h0
      clear h0
      go_wp2_with fail
      exact ⟨rfl, read_no HR.out HO2.out⟩
    have t0 : (k == 0) = false := by simpa using h0
    rw [if_neg h0] at HR0
    clear h0
    by_cases h1 : k = 1
    · subst h1
      have HR := hide (show R = some ((1, 0, [], []), p + 1) by rw [HR0.out, if_pos rfl])
      go_wp2_with fail
      refine bodyPost_ret (results_cell_row rfl _ _ w.heap.size 199 _ (0, 0) _ rfl (fin_blk HB02.out) Tryz.underlying199 rfl (by kernel_rfl)) rfl ?_
      exact read_yes HR.out hgl HA2.out HO2.out (fun N _ => Rd.nil _ N) (fun _ N _ => Rd.nil _ N)
    have t1 : (k == 1) = false := by simpa using h1
    rw [if_neg h1] at HR0
    clear h1
    by_cases h23 : k = 2 ∨ k = 3
    · rw [if_pos h23] at HR0
      have HN := hide (number_any _ g s (p + 1) k HA2.out (by omega) hs)
      generalize numK k (s.extract (p + 1) (wend s (p + 1))).data.toList = nk at HN HR0
      have t2 : (k == 2) = true ∨ (k == 2) = false ∧ (k == 3) = true := by
        rcases h23 with h | h
        · exact .inl (by simpa using h)
        · exact .inr ⟨by rw [beq_eq_false_iff_ne]; omega, by simpa using h⟩
      cases nk with
      | none =>
        have HR := hide HR0.out
        simp only at HR
        clear h23
        rcases t2 with t2 | ⟨t2, t3⟩
        all_goals
          go_wp2_with (go_at_call 224; refine HN.out.mono ?_; rintro e w3 ⟨rfl, ho3⟩)
          exact ⟨rfl, read_no HR.out (HO2.out.trans ho3)⟩
      | some n =>
        have HR := hide HR0.out
        simp only at HR
        clear h23
        rcases t2 with t2 | ⟨t2, t3⟩
        all_goals
          go_wp2_with (go_at_call 224; refine HN.out.mono ?_; rintro e w3 ⟨rfl, ha3, ho3, hn3⟩; have HA3 := hide ha3; clear b0 b1 b2 b3 r0 r1 r2 r3 rf bf; have HB03 := hide (HB02.out.only ho3 (by simp; omega)); have HB13 := hide (HB12.out.only ho3 (by simp; omega)); have HO3 := hide (HO2.out.trans ho3); have b0 := HB13.out.cell 0; have b1 := HB13.out.cell 1; have b2 := HB13.out.cell 2; have b3 := HB13.out.cell 3; have r0 := HB03.out.cell 0; have r1 := HB03.out.cell 1; have r2 := HB03.out.cell 2; have r3 := HB03.out.cell 3; have rf := HB03.out.frozen; have bf := HB13.out.frozen; simp at b0 b1 b2 b3 r0 r1 r2 r3; clear ha3 ho3)
          have HB04 := hide (show Blk (w3.setCell ⟨b, 1, none⟩ (.int .u64 n)) w.heap.size 199 _ from HB03.out.far (p := ⟨b, 1, none⟩) (by simp; omega) _)
          refine bodyPost_ret (results_cell_row rfl _ _ w.heap.size 199 _ (0, 0) _ rfl (fin_blk HB04.out) Tryz.underlying199 rfl (by kernel_rfl)) rfl ?_
          exact read_yes HR.out hgl (Blk.far HA3.out hgb _) (HO3.out.setCell (p := ⟨b, 1, none⟩) (.inr (by simp; omega)) _) (fun N _ => Rd.nil _ N) (fun _ N _ => Rd.nil _ N)
    have t2 : (k == 2) = false := by rw [beq_eq_false_iff_ne]; exact fun h => h23 (.inl h)
    have t3 : (k == 3) = false := by rw [beq_eq_false_iff_ne]; exact fun h => h23 (.inr h)
    rw [if_neg h23] at HR0
    clear h23
    by_cases h4 : k = 4
    · subst h4
      rw [if_pos rfl] at HR0
      have HW := hide (word_any _ g s (p + 1) HA2.out (by omega) (by unfold maxLen; omega))
      have HX := hide (fun W => num_readhex W (s.extract (p + 1) (wend s (p + 1))) (by have := extract_size s (p + 1) (wend s (p + 1)); omega))
      generalize hexR (s.extract (p + 1) (wend s (p + 1))).data.toList = r at HR0 HX
      obtain ⟨bs, c⟩ := r
      simp only at HR0
      by_cases hc : c = 0
      · have HR := hide (show R = some ((4, 0, bs, []), wend s (p + 1)) by rw [HR0.out, if_pos hc])
        have tc : ((c : Int) != 0) = false := by rw [bne_eq_false_iff_eq]; omega
        clear hc
        go_wp2_with (first
          | (go_at_call 226; refine HW.out.mono ?_; rintro e w3 ⟨rfl, ha3, ho3⟩; have HA3 := hide ha3; clear b0 b1 b2 b3 r0 r1 r2 r3 rf bf; have HB03 := hide (HB02.out.only ho3 (by simp; omega)); have HB13 := hide (HB12.out.only ho3 (by simp; omega)); have HO3 := hide (HO2.out.trans ho3); have b0 := HB13.out.cell 0; have b1 := HB13.out.cell 1; have b2 := HB13.out.cell 2; have b3 := HB13.out.cell 3; have r0 := HB03.out.cell 0; have r1 := HB03.out.cell 1; have r2 := HB03.out.cell 2; have r3 := HB03.out.cell 3; have rf := HB03.out.frozen; have bf := HB13.out.frozen; simp at b0 b1 b2 b3 r0 r1 r2 r3; clear ha3 ho3)
          | (go_at_call 225; refine (HX.out _).mono ?_; rintro e w4 ⟨bv, rfl, ho4, hr4⟩; have HA4 := hide (show At g s (wend s (p + 1)) w4 from Blk.only HA3.out ho4 (by simp)); clear b0 b1 b2 b3 r0 r1 r2 r3 rf bf; have HB04 := hide (HB03.out.only ho4 (by simp)); have HB14 := hide (HB13.out.only ho4 (by simp)); have HO4 := hide (HO3.out.trans (ho4.mono (by simp))); have b0 := HB14.out.cell 0; have b1 := HB14.out.cell 1; have b2 := HB14.out.cell 2; have b3 := HB14.out.cell 3; have r0 := HB04.out.cell 0; have r1 := HB04.out.cell 1; have r2 := HB04.out.cell 2; have r3 := HB04.out.cell 3; have rf := HB04.out.frozen; have bf := HB14.out.frozen; simp at b0 b1 b2 b3 r0 r1 r2 r3; obtain ⟨A, cap, rfl, _, _⟩ := (hr4 [] (by simp)).formb; have HR4 := hide hr4; have hsz := HB13.out.lt; clear ho4 hr4))
        have HB05 := hide (show Blk (w4.setCell ⟨b, 2, none⟩ (.slice A bs.length cap)) w.heap.size 199 _ from HB04.out.far (p := ⟨b, 2, none⟩) (by simp; omega) _)
        refine bodyPost_ret (results_cell_row rfl _ _ w.heap.size 199 _ (0, 0) _ rfl (fin_blk HB05.out) Tryz.underlying199 rfl (by kernel_rfl)) rfl ?_
        refine read_yes HR.out hgl (Blk.far HA4.out hgb _) (HO4.out.setCell (p := ⟨b, 2, none⟩) (.inr (by simp; omega)) _) (fun N hN => ?_) (fun _ N _ => Rd.nil _ N)
        exact ((HR4.out (b :: N) (by intro x hx; simp at hx; rcases hx with rfl | hx; exact hsz; have := hN x hx; omega)).only ((Only.refl [b] _).setCell (p := ⟨b, 2, none⟩) (.inl (by simp)) _) (by simp)).less (by intro x hx; simp [hx])
      · have HR := hide (show R = none by rw [HR0.out, if_neg hc])
        have tc : ((c : Int) != 0) = true := by rw [bne_iff_ne]; omega
        clear hc
        go_wp2_with (first
          | (go_at_call 226; refine HW.out.mono ?_; rintro e w3 ⟨rfl, ha3, ho3⟩; have HA3 := hide ha3; clear b0 b1 b2 b3 r0 r1 r2 r3 rf bf; have HB03 := hide (HB02.out.only ho3 (by simp; omega)); have HB13 := hide (HB12.out.only ho3 (by simp; omega)); have HO3 := hide (HO2.out.trans ho3); have b0 := HB13.out.cell 0; have b1 := HB13.out.cell 1; have b2 := HB13.out.cell 2; have b3 := HB13.out.cell 3; have r0 := HB03.out.cell 0; have r1 := HB03.out.cell 1; have r2 := HB03.out.cell 2; have r3 := HB03.out.cell 3; have rf := HB03.out.frozen; have bf := HB13.out.frozen; simp at b0 b1 b2 b3 r0 r1 r2 r3; clear ha3 ho3)
          | (go_at_call 225; refine (HX.out _).mono ?_; rintro e w4 ⟨bv, rfl, ho4, hr4⟩; clear b0 b1 b2 b3 r0 r1 r2 r3 rf bf; have HB04 := hide (HB03.out.only ho4 (by simp)); have HB14 := hide (HB13.out.only ho4 (by simp)); have HO4 := hide (HO3.out.trans (ho4.mono (by simp))); have b0 := HB14.out.cell 0; have b1 := HB14.out.cell 1; have b2 := HB14.out.cell 2; have b3 := HB14.out.cell 3; have r0 := HB04.out.cell 0; have r1 := HB04.out.cell 1; have r2 := HB04.out.cell 2; have r3 := HB04.out.cell 3; have rf := HB04.out.frozen; have bf := HB14.out.frozen; simp at b0 b1 b2 b3 r0 r1 r2 r3; clear ho4 hr4))
        exact ⟨rfl, read_no HR.out HO4.out⟩
    have t4 : (k == 4) = false := by simpa using h4
    rw [if_neg h4] at HR0
    clear h4
    cases hp40 : peekV s (p + 1) 40 with
    | false =>
      have HPK := hide hp40
      have HR := hide (show R = none by rw [HR0.out, if_pos hp40])
      clear hp40
      go_wp2_with (go_at_call 227; refine (take_fault _ g s (p + 1) 40 HA2.out (by unfold maxLen; omega) HPK.out).mono ?_; rintro e w3 ⟨rfl, ho3⟩)
      exact ⟨rfl, read_no HR.out (HO2.out.trans ho3)⟩
    | true =>
      have HPK := hide hp40
      have hp1 := peek_lt hp40
      rw [if_neg (by rw [hp40]; simp)] at HR0
      clear hp40
      cases hnb : numberedV k with
      | false =>
        have HNB := hide hnb
        rw [if_neg (by rw [hnb]; simp)] at HR0
        clear hnb
        replace HR0 := HR0.out
        have HND := hide (fun (nd : Nd) (q : Nat) (h : (if peekV s (p + 2) 41 = true then rdEnd s k 0 [] (p + 2) else rd s f (some (k, 0, [])) (p + 2)) = some (nd, q)) => rd_rest_nd h)
        have HRS := hide (fun W h1 h2 => HIH.out W g b (p + 2) k 0 (.slice none 0 0) keep h1 hgb h2 (by omega) hs (by omega))
        generalize (if peekV s (p + 2) 41 = true then rdEnd s k 0 [] (p + 2) else rd s f (some (k, 0, [])) (p + 2)) = RR at HND HRS HR0
        cases RR with
        | none =>
          have HR := hide HR0
          clear HR0
          go_wp2_with (first
            | (go_at_call 227; (with_reducible refine (take_ok _ g s (p + 1) 40 HA2.out HML.out HPK.out).mono ?_); rintro e w3 ⟨rfl, ha3, ho3⟩; have HA3 := hide ha3; clear b0 b1 b2 b3 r0 r1 r2 r3 rf bf; have HB03 := hide (HB02.out.only ho3 (by simp; omega)); have HB13 := hide (HB12.out.only ho3 (by simp; omega)); have HO3 := hide (HO2.out.trans ho3); have b0 := HB13.out.cell 0; have b1 := HB13.out.cell 1; have b2 := HB13.out.cell 2; have b3 := HB13.out.cell 3; have r0 := HB03.out.cell 0; have r1 := HB03.out.cell 1; have r2 := HB03.out.cell 2; have r3 := HB03.out.cell 3; have rf := HB03.out.frozen; have bf := HB13.out.frozen; simp at b0 b1 b2 b3 r0 r1 r2 r3; clear ha3 ho3)
            | (go_at_call 185; refine (numbered_any _ _).mono ?_; rintro e w' ⟨rfl, rfl⟩; rw [HNB.out])
            | (go_at_call 228; refine (HRS.out _ HA3.out HB13.out).mono ?_; rintro e w7 ⟨rfl, ho7⟩))
          exact ⟨rfl, read_no HR.out (((HO3.out.mono (S' := [g, b]) (by simp)).trans ho7).mono (by simp; omega))⟩
        | some r =>
          obtain ⟨⟨k', n', bs, parts⟩, q⟩ := r
          obtain ⟨e1, e2, e3⟩ := HND.out _ _ rfl
          simp only at e1 e2 e3
          replace e1 := e1.symm
          replace e2 := e2.symm
          subst e1 e2 e3
          have HR := hide HR0
          clear HR0
          go_wp2_with (first
            | (go_at_call 227; (with_reducible refine (take_ok _ g s (p + 1) 40 HA2.out HML.out HPK.out).mono ?_); rintro e w3 ⟨rfl, ha3, ho3⟩; have HA3 := hide ha3; clear b0 b1 b2 b3 r0 r1 r2 r3 rf bf; have HB03 := hide (HB02.out.only ho3 (by simp; omega)); have HB13 := hide (HB12.out.only ho3 (by simp; omega)); have HO3 := hide (HO2.out.trans ho3); have b0 := HB13.out.cell 0; have b1 := HB13.out.cell 1; have b2 := HB13.out.cell 2; have b3 := HB13.out.cell 3; have r0 := HB03.out.cell 0; have r1 := HB03.out.cell 1; have r2 := HB03.out.cell 2; have r3 := HB03.out.cell 3; have rf := HB03.out.frozen; have bf := HB13.out.frozen; simp at b0 b1 b2 b3 r0 r1 r2 r3; clear ha3 ho3)
            | (go_at_call 185; refine (numbered_any _ _).mono ?_; rintro e w' ⟨rfl, rfl⟩; rw [HNB.out])
            | (go_at_call 228; refine (HRS.out _ HA3.out HB13.out).mono ?_; rintro e w7 ⟨rfl, ha7, ho7, A, l, c, hB7, hown⟩; have HA7 := hide ha7; clear b0 b1 b2 b3 r0 r1 r2 r3 rf bf; have HB07 := hide (HB03.out.only ho7 (by simp; omega)); have HB17 := hide hB7; have HO7 := hide (((HO3.out.mono (S' := [g, b]) (by simp)).trans ho7).mono (S' := [g]) (by simp; omega)); have HOW := hide hown; have HSZ := hide HB13.out.lt; have b0 := HB17.out.cell 0; have b1 := HB17.out.cell 1; have b2 := HB17.out.cell 2; have b3 := HB17.out.cell 3; have r0 := HB07.out.cell 0; have r1 := HB07.out.cell 1; have r2 := HB07.out.cell 2; have r3 := HB07.out.cell 3; have rf := HB07.out.frozen; have bf := HB17.out.frozen; simp at b0 b1 b2 b3 r0 r1 r2 r3; clear ha7 ho7 hB7 hown))
          refine bodyPost_ret (results_cell_row rfl _ _ w.heap.size 199 _ (0, 0) _ rfl (fin_blk HB07.out) Tryz.underlying199 rfl (by kernel_rfl)) rfl ?_
          refine read_yes HR.out hgl HA7.out HO7.out (fun N _ => Rd.nil _ N) (fun hk N hN => ?_)
          have h := HOW.out
          rw [if_pos hk] at h
          exact (Rd.of_own h (fun x hx => by have := hN x hx; have := HSZ.out; omega)).1
      | true =>
        have HNB := hide hnb
        rw [if_pos hnb] at HR0
        clear hnb
        have HN := hide (fun W h => number_any W g s (p + 2) k h (by omega) hs)
        have hwl := wend_le s (p + 2) (by omega)
        have hwg := wend_ge s (p + 2)
        generalize numK k (s.extract (p + 2) (wend s (p + 2))).data.toList = nk at HN HR0
        cases nk with
        | none =>
          have HR := hide HR0.out
          simp only at HR
          go_wp2_with (first
            | (go_at_call 227; (with_reducible refine (take_ok _ g s (p + 1) 40 HA2.out HML.out HPK.out).mono ?_); rintro e w3 ⟨rfl, ha3, ho3⟩; have HA3 := hide ha3; clear b0 b1 b2 b3 r0 r1 r2 r3 rf bf; have HB03 := hide (HB02.out.only ho3 (by simp; omega)); have HB13 := hide (HB12.out.only ho3 (by simp; omega)); have HO3 := hide (HO2.out.trans ho3); have b0 := HB13.out.cell 0; have b1 := HB13.out.cell 1; have b2 := HB13.out.cell 2; have b3 := HB13.out.cell 3; have r0 := HB03.out.cell 0; have r1 := HB03.out.cell 1; have r2 := HB03.out.cell 2; have r3 := HB03.out.cell 3; have rf := HB03.out.frozen; have bf := HB13.out.frozen; simp at b0 b1 b2 b3 r0 r1 r2 r3; clear ha3 ho3)
            | (go_at_call 185; refine (numbered_any _ _).mono ?_; rintro e w' ⟨rfl, rfl⟩; rw [HNB.out])
            | (go_at_call 224; refine (HN.out _ HA3.out).mono ?_; rintro e w4 ⟨rfl, ho4⟩))
          exact ⟨rfl, read_no HR.out (HO3.out.trans ho4)⟩
        | some n =>
          replace HR0 := HR0.out
          simp only at HR0
          obtain ⟨q2, hqe⟩ : ∃ q2, q2 = wend s (p + 2) := ⟨_, rfl⟩
          have HQ := hide hqe
          rw [← hqe] at HR0 hwl hwg
          clear hqe
          cases hpc : peekV s q2 44 with
          | false =>
            have HPC := hide hpc
            rw [if_pos hpc] at HR0
            have HR := hide HR0
            clear hpc HR0
            go_wp2_with (first
              | (go_at_call 227; (with_reducible refine (take_ok _ g s (p + 1) 40 HA2.out HML.out HPK.out).mono ?_); rintro e w3 ⟨rfl, ha3, ho3⟩; have HA3 := hide ha3; clear b0 b1 b2 b3 r0 r1 r2 r3 rf bf; have HB03 := hide (HB02.out.only ho3 (by simp; omega)); have HB13 := hide (HB12.out.only ho3 (by simp; omega)); have HO3 := hide (HO2.out.trans ho3); have b0 := HB13.out.cell 0; have b1 := HB13.out.cell 1; have b2 := HB13.out.cell 2; have b3 := HB13.out.cell 3; have r0 := HB03.out.cell 0; have r1 := HB03.out.cell 1; have r2 := HB03.out.cell 2; have r3 := HB03.out.cell 3; have rf := HB03.out.frozen; have bf := HB13.out.frozen; simp at b0 b1 b2 b3 r0 r1 r2 r3; clear ha3 ho3)
              | (go_at_call 185; refine (numbered_any _ _).mono ?_; rintro e w' ⟨rfl, rfl⟩; rw [HNB.out])
              | (go_at_call 224; refine (HN.out _ HA3.out).mono ?_; rintro e w4 ⟨rfl, ha4, ho4, hn4⟩; rw [← HQ.out] at ha4; clear b0 b1 b2 b3 r0 r1 r2 r3 rf bf; have HB05 := hide (show Blk (w4.setCell ⟨b, 1, none⟩ (.int .u64 n)) w.heap.size 199 _ from (HB03.out.only ho4 (by simp; omega)).far (p := ⟨b, 1, none⟩) (by simp; omega) _); have HB15 := hide (show Blk (w4.setCell ⟨b, 1, none⟩ (.int .u64 n)) b 199 #[.int .i64 k, .int .u64 n, .slice none 0 0, .slice none 0 0] from (HB13.out.only ho4 (by simp; omega)).set_ 1 _); have HA5 := hide (show At g s q2 (w4.setCell ⟨b, 1, none⟩ (.int .u64 n)) from Blk.far ha4 hgb _); have HO5 := hide ((HO3.out.trans ho4).setCell (p := ⟨b, 1, none⟩) (.inr (by simp; omega)) (.int .u64 n)); have j1 := (HB13.out.only ho4 (by simp; omega)).cell 1; have jf := (HB13.out.only ho4 (by simp; omega)).frozen 1; simp at j1; have b0 := HB15.out.cell 0; have b1 := HB15.out.cell 1; have b2 := HB15.out.cell 2; have b3 := HB15.out.cell 3; have r0 := HB05.out.cell 0; have r1 := HB05.out.cell 1; have r2 := HB05.out.cell 2; have r3 := HB05.out.cell 3; have rf := HB05.out.frozen; have bf := HB15.out.frozen; simp at b0 b1 b2 b3 r0 r1 r2 r3; clear ha4 ho4)
              | (go_at_call 227; (with_reducible refine (take_fault _ g s q2 44 HA5.out HML.out HPC.out).mono ?_); rintro e w6 ⟨rfl, ho6⟩))
            exact ⟨rfl, read_no HR.out (HO5.out.trans ho6)⟩
          | true =>
            have HPC := hide hpc
            rw [if_neg (by rw [hpc]; simp)] at HR0
            have hq2 := peek_lt hpc
            clear hpc
            have HND := hide (fun (nd : Nd) (q : Nat) (h : (if peekV s (q2 + 1) 41 = true then rdEnd s k n [] (q2 + 1) else rd s f (some (k, n, [])) (q2 + 1)) = some (nd, q)) => rd_rest_nd h)
            have HRS := hide (fun W h1 h2 => HIH.out W g b (q2 + 1) k n (.slice none 0 0) keep h1 hgb h2 (by omega) hs (by omega))
            generalize (if peekV s (q2 + 1) 41 = true then rdEnd s k n [] (q2 + 1) else rd s f (some (k, n, [])) (q2 + 1)) = RR at HND HRS HR0
            cases RR with
            | none =>
              have HR := hide HR0
              clear HR0
              go_wp2_with (first
                | (go_at_call 227; (with_reducible refine (take_ok _ g s (p + 1) 40 HA2.out HML.out HPK.out).mono ?_); rintro e w3 ⟨rfl, ha3, ho3⟩; have HA3 := hide ha3; clear b0 b1 b2 b3 r0 r1 r2 r3 rf bf; have HB03 := hide (HB02.out.only ho3 (by simp; omega)); have HB13 := hide (HB12.out.only ho3 (by simp; omega)); have HO3 := hide (HO2.out.trans ho3); have b0 := HB13.out.cell 0; have b1 := HB13.out.cell 1; have b2 := HB13.out.cell 2; have b3 := HB13.out.cell 3; have r0 := HB03.out.cell 0; have r1 := HB03.out.cell 1; have r2 := HB03.out.cell 2; have r3 := HB03.out.cell 3; have rf := HB03.out.frozen; have bf := HB13.out.frozen; simp at b0 b1 b2 b3 r0 r1 r2 r3; clear ha3 ho3)
                | (go_at_call 185; refine (numbered_any _ _).mono ?_; rintro e w' ⟨rfl, rfl⟩; rw [HNB.out])
                | (go_at_call 224; refine (HN.out _ HA3.out).mono ?_; rintro e w4 ⟨rfl, ha4, ho4, hn4⟩; rw [← HQ.out] at ha4; clear b0 b1 b2 b3 r0 r1 r2 r3 rf bf; have HB05 := hide (show Blk (w4.setCell ⟨b, 1, none⟩ (.int .u64 n)) w.heap.size 199 _ from (HB03.out.only ho4 (by simp; omega)).far (p := ⟨b, 1, none⟩) (by simp; omega) _); have HB15 := hide (show Blk (w4.setCell ⟨b, 1, none⟩ (.int .u64 n)) b 199 #[.int .i64 k, .int .u64 n, .slice none 0 0, .slice none 0 0] from (HB13.out.only ho4 (by simp; omega)).set_ 1 _); have HA5 := hide (show At g s q2 (w4.setCell ⟨b, 1, none⟩ (.int .u64 n)) from Blk.far ha4 hgb _); have HO5 := hide ((HO3.out.trans ho4).setCell (p := ⟨b, 1, none⟩) (.inr (by simp; omega)) (.int .u64 n)); have j1 := (HB13.out.only ho4 (by simp; omega)).cell 1; have jf := (HB13.out.only ho4 (by simp; omega)).frozen 1; simp at j1; have b0 := HB15.out.cell 0; have b1 := HB15.out.cell 1; have b2 := HB15.out.cell 2; have b3 := HB15.out.cell 3; have r0 := HB05.out.cell 0; have r1 := HB05.out.cell 1; have r2 := HB05.out.cell 2; have r3 := HB05.out.cell 3; have rf := HB05.out.frozen; have bf := HB15.out.frozen; simp at b0 b1 b2 b3 r0 r1 r2 r3; clear ha4 ho4)
                | (go_at_call 227; (with_reducible refine (take_ok _ g s q2 44 HA5.out HML.out HPC.out).mono ?_); rintro e w6 ⟨rfl, ha6, ho6⟩; have HA6 := hide ha6; clear b0 b1 b2 b3 r0 r1 r2 r3 rf bf; have HB06 := hide (HB05.out.only ho6 (by simp; omega)); have HB16 := hide (HB15.out.only ho6 (by simp; omega)); have HO6 := hide (HO5.out.trans ho6); have b0 := HB16.out.cell 0; have b1 := HB16.out.cell 1; have b2 := HB16.out.cell 2; have b3 := HB16.out.cell 3; have r0 := HB06.out.cell 0; have r1 := HB06.out.cell 1; have r2 := HB06.out.cell 2; have r3 := HB06.out.cell 3; have rf := HB06.out.frozen; have bf := HB16.out.frozen; simp at b0 b1 b2 b3 r0 r1 r2 r3; clear ha6 ho6)
                | (go_at_call 228; refine (HRS.out _ HA6.out HB16.out).mono ?_; rintro e w7 ⟨rfl, ho7⟩))
              exact ⟨rfl, read_no HR.out (((HO6.out.mono (S' := [g, b]) (by simp)).trans ho7).mono (by simp; omega))⟩
            | some r =>
              obtain ⟨⟨k', n', bs, parts⟩, q⟩ := r
              obtain ⟨e1, e2, e3⟩ := HND.out _ _ rfl
              simp only at e1 e2 e3
              replace e1 := e1.symm
              replace e2 := e2.symm
              subst e1 e2 e3
              have HR := hide HR0
              clear HR0
              go_wp2_with (first
                | (go_at_call 227; (with_reducible refine (take_ok _ g s (p + 1) 40 HA2.out HML.out HPK.out).mono ?_); rintro e w3 ⟨rfl, ha3, ho3⟩; have HA3 := hide ha3; clear b0 b1 b2 b3 r0 r1 r2 r3 rf bf; have HB03 := hide (HB02.out.only ho3 (by simp; omega)); have HB13 := hide (HB12.out.only ho3 (by simp; omega)); have HO3 := hide (HO2.out.trans ho3); have b0 := HB13.out.cell 0; have b1 := HB13.out.cell 1; have b2 := HB13.out.cell 2; have b3 := HB13.out.cell 3; have r0 := HB03.out.cell 0; have r1 := HB03.out.cell 1; have r2 := HB03.out.cell 2; have r3 := HB03.out.cell 3; have rf := HB03.out.frozen; have bf := HB13.out.frozen; simp at b0 b1 b2 b3 r0 r1 r2 r3; clear ha3 ho3)
                | (go_at_call 185; refine (numbered_any _ _).mono ?_; rintro e w' ⟨rfl, rfl⟩; rw [HNB.out])
                | (go_at_call 224; refine (HN.out _ HA3.out).mono ?_; rintro e w4 ⟨rfl, ha4, ho4, hn4⟩; rw [← HQ.out] at ha4; clear b0 b1 b2 b3 r0 r1 r2 r3 rf bf; have HB05 := hide (show Blk (w4.setCell ⟨b, 1, none⟩ (.int .u64 n)) w.heap.size 199 _ from (HB03.out.only ho4 (by simp; omega)).far (p := ⟨b, 1, none⟩) (by simp; omega) _); have HB15 := hide (show Blk (w4.setCell ⟨b, 1, none⟩ (.int .u64 n)) b 199 #[.int .i64 k, .int .u64 n, .slice none 0 0, .slice none 0 0] from (HB13.out.only ho4 (by simp; omega)).set_ 1 _); have HA5 := hide (show At g s q2 (w4.setCell ⟨b, 1, none⟩ (.int .u64 n)) from Blk.far ha4 hgb _); have HO5 := hide ((HO3.out.trans ho4).setCell (p := ⟨b, 1, none⟩) (.inr (by simp; omega)) (.int .u64 n)); have j1 := (HB13.out.only ho4 (by simp; omega)).cell 1; have jf := (HB13.out.only ho4 (by simp; omega)).frozen 1; simp at j1; have b0 := HB15.out.cell 0; have b1 := HB15.out.cell 1; have b2 := HB15.out.cell 2; have b3 := HB15.out.cell 3; have r0 := HB05.out.cell 0; have r1 := HB05.out.cell 1; have r2 := HB05.out.cell 2; have r3 := HB05.out.cell 3; have rf := HB05.out.frozen; have bf := HB15.out.frozen; simp at b0 b1 b2 b3 r0 r1 r2 r3; clear ha4 ho4)
                | (go_at_call 227; (with_reducible refine (take_ok _ g s q2 44 HA5.out HML.out HPC.out).mono ?_); rintro e w6 ⟨rfl, ha6, ho6⟩; have HA6 := hide ha6; clear b0 b1 b2 b3 r0 r1 r2 r3 rf bf; have HB06 := hide (HB05.out.only ho6 (by simp; omega)); have HB16 := hide (HB15.out.only ho6 (by simp; omega)); have HO6 := hide (HO5.out.trans ho6); have b0 := HB16.out.cell 0; have b1 := HB16.out.cell 1; have b2 := HB16.out.cell 2; have b3 := HB16.out.cell 3; have r0 := HB06.out.cell 0; have r1 := HB06.out.cell 1; have r2 := HB06.out.cell 2; have r3 := HB06.out.cell 3; have rf := HB06.out.frozen; have bf := HB16.out.frozen; simp at b0 b1 b2 b3 r0 r1 r2 r3; clear ha6 ho6)
                | (go_at_call 228; refine (HRS.out _ HA6.out HB16.out).mono ?_; rintro e w7 ⟨rfl, ha7, ho7, A, l, c, hB7, hown⟩; have HA7 := hide ha7; clear b0 b1 b2 b3 r0 r1 r2 r3 rf bf; have HB07 := hide (HB06.out.only ho7 (by simp; omega)); have HB17 := hide hB7; have HO7 := hide (((HO6.out.mono (S' := [g, b]) (by simp)).trans ho7).mono (S' := [g]) (by simp; omega)); have HOW := hide hown; have HSZ := hide HB16.out.lt; have b0 := HB17.out.cell 0; have b1 := HB17.out.cell 1; have b2 := HB17.out.cell 2; have b3 := HB17.out.cell 3; have r0 := HB07.out.cell 0; have r1 := HB07.out.cell 1; have r2 := HB07.out.cell 2; have r3 := HB07.out.cell 3; have rf := HB07.out.frozen; have bf := HB17.out.frozen; simp at b0 b1 b2 b3 r0 r1 r2 r3; clear ha7 ho7 hB7 hown))
              refine bodyPost_ret (results_cell_row rfl _ _ w.heap.size 199 _ (0, 0) _ rfl (fin_blk HB07.out) Tryz.underlying199 rfl (by kernel_rfl)) rfl ?_
              refine read_yes HR.out hgl HA7.out HO7.out (fun N _ => Rd.nil _ N) (fun hk N hN => ?_)
              have h := HOW.out
              rw [if_pos hk] at h
              exact (Rd.of_own h (fun x hx => by have := hN x hx; have := HSZ.out; omega)).1
end
end Go.Proofs.YtcokjoidpnfjhaaGreatDoor

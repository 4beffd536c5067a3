/-
  Walks and plain words (texts Mc3, Ms1, Mc4a). No condition beyond those that each theorem states.
-/
import Derived.Deep.RegionHeld3
import Derived.Test.YtcokjoidpnfjhaaGreatDoorA22
namespace Go.Proofs.YtcokjoidpnfjhaaGreatDoor
section
open Go.RowKit Go.Deep

noncomputable def sec2 (m : Mg) (c : ByteArray) : ByteArray := if c = ByteArray.empty then ⟨#[48]⟩ else sumT c (signedM m)
end
section
open Go.RowKit Go.Deep

theorem ms_fit {N : Nat} {s : ByteArray} (h : Tn N s) (hN : N ≤ 65535) : fitW s = true := by
  unfold fitW
  rw [decide_eq_true (Nat.le_trans h.2 hN), h.1]
  rfl
theorem ms_fit_is {s : ByteArray} (h : fitW s = true) : Tn s.size s := by
  unfold fitW at h
  rw [Bool.and_eq_true] at h
  exact ⟨h.2, Nat.le_refl _⟩
theorem ms_kind {N : Nat} {s : ByteArray} (h : kindT s ≠ 0) (hs : s.size ≤ N) : Tn N s := by
  refine ⟨?_, hs⟩
  unfold kindT at h
  cases hp : parseV s with
  | none => rw [hp] at h; exact absurd rfl h
  | some nd => rfl
theorem ms_zero : Tn 1 oneT := ⟨by kernel_rfl, Nat.le_refl _⟩
/-- The message with other sums. -/
def macd (m : Mg) (a b : ByteArray) : Mg := ⟨m.k, m.s, m.r, m.c, m.x4, m.x5, m.x6, m.x7, m.x8, m.x9, m.x10, a, b⟩
theorem starts_is {m : Mg} (h : startsM m = true) : rightM m = true ∧ (m.k = 1 ∨ m.k = 2) := by
  unfold startsM at h
  rw [Bool.and_eq_true, decide_eq_true_eq] at h
  have h2 := h.2
  unfold rightM at h2
  rw [Bool.and_eq_true, decide_eq_true_eq] at h2
  exact ⟨h.2, by have := h2.1; omega⟩
theorem starts_fits {m : Mg} (h : startsM m = true) : fitW m.x11 = true ∧ fitW m.x12 = true ∧ ∀ p ∈ (textsM m).take ((textsM m).length - 2), fitW p = true := by
  obtain ⟨hr, hk⟩ := starts_is h
  unfold rightM at hr
  rw [Bool.and_eq_true, Bool.and_eq_true, List.all_eq_true] at hr
  obtain ⟨_, hf, _⟩ := hr
  refine ⟨?_, ?_, fun p hp => hf p (List.mem_of_mem_take hp)⟩
  · refine hf _ ?_
    unfold textsM
    rcases hk with hk | hk
    · rw [if_pos hk]; simp
    · rw [if_neg (by omega), if_pos hk]; simp
  · refine hf _ ?_
    unfold textsM
    rcases hk with hk | hk
    · rw [if_pos hk]; simp
    · rw [if_neg (by omega), if_pos hk]; simp
theorem macd_right {m : Mg} {a b : ByteArray} (h : startsM m = true) (ha : fitW a = true) (hb : fitW b = true) : startsM (macd m a b) = true := by
  obtain ⟨hr, hk⟩ := starts_is h
  obtain ⟨k, s, r, c, x4, x5, x6, x7, x8, x9, x10, x11, x12⟩ := m
  unfold startsM macd
  unfold rightM textsM onlyM at hr ⊢
  simp only at hr hk ⊢
  rcases hk with rfl | rfl
  · rw [Bool.and_eq_true, Bool.and_eq_true, eqM_iff, List.all_eq_true] at hr
    obtain ⟨_, hf, he⟩ := hr
    simp at he hf
    obtain ⟨e1, e2, e3, e4, e5, e6⟩ := he
    subst e1 e2 e3 e4 e5 e6
    rw [Bool.and_eq_true, Bool.and_eq_true, Bool.and_eq_true, eqM_iff, List.all_eq_true]
    refine ⟨rfl, rfl, ?_, by simp⟩
    intro p hp
    simp at hp
    rcases hp with rfl | rfl | rfl | rfl | rfl
    · exact hf.1
    · exact hf.2.1
    · exact hf.2.2.1
    · exact ha
    · exact hb
  · rw [Bool.and_eq_true, Bool.and_eq_true, eqM_iff, List.all_eq_true] at hr
    obtain ⟨_, hf, he⟩ := hr
    simp at he hf
    obtain ⟨e1, e2, e3, e4, e5, e6⟩ := he
    subst e1 e2 e3 e4 e5 e6
    rw [Bool.and_eq_true, Bool.and_eq_true, Bool.and_eq_true, eqM_iff, List.all_eq_true]
    refine ⟨rfl, rfl, ?_, by simp⟩
    intro p hp
    simp at hp
    rcases hp with rfl | rfl | rfl | rfl
    · exact hf.1
    · exact hf.2.1
    · exact ha
    · exact hb
theorem macd_take {m : Mg} (a b : ByteArray) (hk : m.k = 1 ∨ m.k = 2) : (textsM (macd m a b)).take ((textsM (macd m a b)).length - 2) = (textsM m).take ((textsM m).length - 2) := by
  unfold textsM macd
  simp only
  rcases hk with hk | hk
  · rw [if_pos hk, if_pos hk]; rfl
  · rw [if_neg (by omega), if_pos hk, if_neg (by omega), if_pos hk]; rfl
theorem body_is {m : Mg} (h : startsM m = true) : bodyM m = makeV 11 0 [] ([numT m.k.toNat, numT m.s, numT m.r] ++ (textsM m).take ((textsM m).length - 2)) := by
  obtain ⟨hr, hk⟩ := starts_is h
  unfold bodyM
  rw [if_pos ⟨hr, by omega⟩]
theorem macd_body {m : Mg} {a b : ByteArray} (h : startsM m = true) (ha : fitW a = true) (hb : fitW b = true) : bodyM (macd m a b) = bodyM m := by
  rw [body_is h, body_is (macd_right h ha hb), macd_take a b (starts_is h).2]
  rfl
def sizesM (m : Mg) : Nat := m.x4.size + m.x5.size + m.x6.size + m.x7.size + m.x8.size + m.x9.size + m.x10.size + m.x11.size + m.x12.size
theorem take_sum {m : Mg} (hk : m.k = 1 ∨ m.k = 2) : sumL ((textsM m).take ((textsM m).length - 2)) ≤ sizesM m + 3 := by
  unfold textsM sizesM
  rcases hk with hk | hk
  · rw [if_pos hk]; show m.x4.size + 1 + (m.x5.size + 1 + (m.x6.size + 1 + 0)) ≤ _; omega
  · rw [if_neg (by omega), if_pos hk]; show m.x4.size + 1 + (m.x7.size + 1 + 0) ≤ _; omega
theorem body_tn {m : Mg} (h : startsM m = true) (hF : m.Fine) (hs : sizesM m ≤ 8000) : Tn 8200 (bodyM m) := by
  have hk := (starts_is h).2
  rw [body_is h]
  have t1 := tn_num m.k.toNat (by omega)
  have t2 := tn_num m.s (by have := hF.s; omega)
  have t3 := tn_num m.r (by have := hF.r; omega)
  have hts := take_sum hk
  have hff := (starts_fits h).2.2
  generalize (textsM m).take ((textsM m).length - 2) = l at *
  refine tn_make (by omega) (by omega) (by omega) (fun hx => by cases hx) ?_ ?_ _ ?_ (by omega)
  · unfold fitsV
    have e1 : leastV 11 = 0 := by decide
    have e2 : mostV 11 < 0 := by decide
    rw [e1, decide_eq_true e2]
    simp
    omega
  · intro p hp
    simp at hp
    rcases hp with rfl | rfl | rfl | hp
    · exact t1.1
    · exact t2.1
    · exact t3.1
    · exact (ms_fit_is (hff p hp)).1
  · have a1 := t1.2
    have a2 := t2.2
    have a3 := t3.2
    show (numT m.k.toNat).size + 1 + ((numT m.s).size + 1 + ((numT m.r).size + 1 + sumL l)) + 24 ≤ 8200
    omega
theorem door_tn {p : ByteArray} (hk : kindT p = 5) (hs : p.size ≤ 200) : Tn 240 (doorT p) :=
  (tn_two 7 (.inr (.inl rfl)) (show Tn 9 ⟨#[120, 54, 100, 54, 49, 54, 51, 51, 49]⟩ from ⟨by kernel_rfl, Nat.le_refl _⟩) (ms_kind (by omega) hs) (by omega)).mono (by omega)
theorem sum_tn {a b : Nat} {x y : ByteArray} (hx : Tn a x) (hy : Tn b y) (h : a + b ≤ 60000) : Tn (a + b + 26) (sumT x y) := tn_two 9 (.inr (.inr rfl)) hx hy h
/-- Both sums of a right message. -/
noncomputable def mac1 (m : Mg) (p : ByteArray) : ByteArray := sumT (doorT p) (bodyM m)
noncomputable def mac2 (m : Mg) (p c : ByteArray) : ByteArray := sec2 (macd m (mac1 m p) oneT) c
theorem sign2_macd (m : Mg) (p c : ByteArray) : sign2 m p c = macd m (mac1 m p) (mac2 m p c) := by
  unfold sign2 mac2 sec2
  by_cases hc : c = ByteArray.empty
  · rw [if_pos hc, if_pos hc]; rfl
  · rw [if_neg hc, if_neg hc]; rfl
section
variable {m : Mg} {p c o : ByteArray}
theorem mac1_tn (h : startsM m = true) (hF : m.Fine) (hs : sizesM m ≤ 8000) (hk : kindT p = 5) (hp : p.size ≤ 200) : Tn 8466 (mac1 m p) := sum_tn (door_tn hk hp) (body_tn h hF hs) (by omega)
theorem signed_tn {b : ByteArray} (h : startsM m = true) (hF : m.Fine) (hs : sizesM m ≤ 8000) (hk : kindT p = 5) (hp : p.size ≤ 200) (hb : fitW b = true) : signedM (macd m (mac1 m p) b) = makeV 11 0 [] [bodyM m, mac1 m p] ∧ Tn 16800 (signedM (macd m (mac1 m p) b)) := by
  have t1 := mac1_tn h hF hs hk hp
  have t2 := body_tn h hF hs
  have e : signedM (macd m (mac1 m p) b) = makeV 11 0 [] [bodyM m, mac1 m p] := by
    unfold signedM
    rw [macd_body h (ms_fit t1 (by omega)) hb, if_neg t2.ne]
    rfl
  refine ⟨e, ?_⟩
  rw [e]
  refine tn_make (by omega) (by omega) (by omega) (fun hx => by cases hx) (by show fitsV 11 2 = true; decide) ?_ _ ?_ (by omega)
  · intro q hq
    simp at hq
    rcases hq with rfl | rfl
    · exact t2.1
    · exact t1.1
  · have := t1.2
    have := t2.2
    show (bodyM m).size + 1 + ((mac1 m p).size + 1 + 0) + 24 ≤ 16800
    omega
theorem mac2_tn (h : startsM m = true) (hF : m.Fine) (hs : sizesM m ≤ 8000) (hk : kindT p = 5) (hp : p.size ≤ 200) (hc : c = ByteArray.empty ∨ kindT c ≠ 0) (hc2 : c.size ≤ 200) : Tn 17100 (mac2 m p c) := by
  unfold mac2 sec2
  by_cases he : c = ByteArray.empty
  · rw [if_pos he]; exact ms_zero.mono (by omega)
  · rw [if_neg he]
    exact (sum_tn (ms_kind (hc.resolve_left he) hc2) (signed_tn h hF hs hk hp (ms_fit ms_zero (by omega))).2 (by omega)).mono (by omega)
theorem ok_is (h : okSign m p c = true) : startsM m = true ∧ kindT p = 5 ∧ (c = ByteArray.empty ∨ kindT c ≠ 0) := by
  unfold okSign at h
  rw [Bool.and_eq_true, Bool.and_eq_true, Bool.or_eq_true, decide_eq_true_eq, decide_eq_true_eq, decide_eq_true_eq] at h
  exact h
theorem signed_starts (hb : okSign m p c = true) (hF : m.Fine) (hs : sizesM m ≤ 8000) (hp : p.size ≤ 200) (hc : c.size ≤ 200) : startsM (sign2 m p c) = true := by
  obtain ⟨h1, h2, h3⟩ := ok_is hb
  rw [sign2_macd]
  exact macd_right h1 (ms_fit (mac1_tn h1 hF hs h2 hp) (by omega)) (ms_fit (mac2_tn h1 hF hs h2 hp h3 hc) (by omega))
theorem sign_fine (hb : okSign m p c = true) (hF : m.Fine) (hs : sizesM m ≤ 8000) (hp : p.size ≤ 200) (hc : c.size ≤ 200) : signMV m p c = (0, sign2 m p c) := by
  unfold signMV
  rw [hb, if_pos rfl, if_pos (starts_is (signed_starts hb hF hs hp hc)).1]
end
end
section
open Go.RowKit Go.Deep

set_option maxRecDepth 100000 in
set_option maxHeartbeats 12800000 in
theorem Sign_no (w : World) (m : Mg) (p c2 : ByteArray) (hF : m.Fine) (hk0 : -9223372036854775808 ≤ m.k) (hp : p.size ≤ maxLen) (hc : c2.size ≤ maxLen) (htab : Tab w) (hb : okSign m p c2 = true) (hce : c2 = ByteArray.empty) (hR : rightM (sign2 m p c2) = true) :
    Calls Tryz.prog 132 #[.agg m.cells, .string p, .string c2] w (SignPost (signMV m p c2) w) := by
  have HV := hide (show signMV m p c2 = (0, sign2 m p c2) by unfold signMV; rw [hb, if_pos rfl, if_pos hR])
  have HST := hide (fun W => starts_any W m hF hk0)
  unfold RetB at HST
  have HKP := hide (fun W => Kind_any W p hp)
  have HKC := hide (fun W => Kind_any W c2 hc)
  unfold KindPost at HKP HKC
  have HTM := hide (fun W => Terms_any W (sign2 m p c2) (sign2_fine hF p c2))
  unfold TermsPost at HTM
  simp only [hR, if_true] at HTM
  have HTL := hide (show 0 < (textsM (sign2 m p c2)).length from texts_pos hR)
  obtain ⟨tl, htl⟩ : ∃ l, l = textsM (sign2 m p c2) := ⟨_, rfl⟩
  rw [← htl] at HTM HTL
  clear htl
  have HBD := hide (fun W ht => Body_any W m hF ht)
  have HDR := hide (fun W ht => door_any W p hp ht)
  have HSM := hide (fun W ht => sum_any W (doorT p) (bodyM m) (door_size p) (body_size m) ht)
  unfold MakePost at HBD HDR HSM
  have h1 : startsM m = true ∧ kindT p = 5 := by unfold okSign at hb; rw [Bool.and_eq_true, Bool.and_eq_true] at hb; exact ⟨hb.1, of_decide_eq_true hb.2.1⟩
  rw [h1.1] at HST
  have e2 : (kindT p != 5) = false := by rw [bne_eq_false_iff_eq]; exact h1.2
  have e2b : kindT p = 5 := h1.2
  rw [e2b] at HKP e2
  have e3 : c2.toList.isEmpty = true := by rw [hce]; kernel_rfl
  have HS := hide (show sign2 m p c2 = sign1 m p by unfold sign2; rw [if_pos hce])
  rw [HS.out] at HTM HV
  unfold sign1 at HTM HV
  clear hb hR hce h1 e2b HS
  change Hid (∀ W ht, Calls _ _ _ _ (fun e w' => e = .returned (.string (sumT (doorT p) (bodyM m))) ∧ Only [] W w')) at HSM
  generalize sumT (doorT p) (bodyM m) = s1 at *
  generalize bodyM m = bd at *
  generalize doorT p = dp at *
  obtain ⟨k, s, r, c, x4, x5, x6, x7, x8, x9, x10, x11, x12⟩ := m
  unfold Mg.cells at HST HTM HBD ⊢
  simp only at HST HTM HBD HV ⊢
  have HMB := hide ((Blk.new w 29 #[.int .i64 k, .int .u32 (s : Nat), .int .u32 (r : Nat), .int .u64 (c : Nat), .string x4, .string x5, .string x6, .string x7, .string x8, .string x9, .string x10, .string x11, .string x12]).alloc (.cells #[.int .i64 0, .int .u32 0, .int .u32 0, .int .u64 0, .string ⟨#[]⟩, .string ⟨#[]⟩, .string ⟨#[]⟩, .string ⟨#[]⟩, .string ⟨#[]⟩, .string ⟨#[]⟩, .string ⟨#[]⟩, .string ⟨#[]⟩, .string ⟨#[]⟩] 29))
  have HRB := hide (Blk.new (w.alloc (.cells #[.int .i64 k, .int .u32 (s : Nat), .int .u32 (r : Nat), .int .u64 (c : Nat), .string x4, .string x5, .string x6, .string x7, .string x8, .string x9, .string x10, .string x11, .string x12] 29)) 29 #[.int .i64 0, .int .u32 0, .int .u32 0, .int .u64 0, .string ⟨#[]⟩, .string ⟨#[]⟩, .string ⟨#[]⟩, .string ⟨#[]⟩, .string ⟨#[]⟩, .string ⟨#[]⟩, .string ⟨#[]⟩, .string ⟨#[]⟩, .string ⟨#[]⟩])
  rw [World.size_alloc] at HRB
  have HO := hide (((Only.refl [] w).alloc (.cells #[.int .i64 k, .int .u32 (s : Nat), .int .u32 (r : Nat), .int .u64 (c : Nat), .string x4, .string x5, .string x6, .string x7, .string x8, .string x9, .string x10, .string x11, .string x12] 29)).alloc (.cells #[.int .i64 0, .int .u32 0, .int .u32 0, .int .u64 0, .string ⟨#[]⟩, .string ⟨#[]⟩, .string ⟨#[]⟩, .string ⟨#[]⟩, .string ⟨#[]⟩, .string ⟨#[]⟩, .string ⟨#[]⟩, .string ⟨#[]⟩, .string ⟨#[]⟩] 29))
  have HT := hide (htab.only HO.out (by simp))
  have HTW := hide htab
  clear htab hF hk0
  obtain ⟨n, hn⟩ : ∃ n, n = tl.length := ⟨_, rfl⟩
  have hnz : ((n : Int) == 0) = false := by rw [beq_eq_false_iff_ne]; have := HTL.out; omega
  have HN := hide hn
  clear hn
  go_enter Tryz.func132, Tryz.ntmps132
  go_upto_region 1 with fail
  generalize ((w.alloc (.cells #[.int .i64 k, .int .u32 (s : Nat), .int .u32 (r : Nat), .int .u64 (c : Nat), .string x4, .string x5, .string x6, .string x7, .string x8, .string x9, .string x10, .string x11, .string x12] 29)).alloc (.cells #[.int .i64 0, .int .u32 0, .int .u32 0, .int .u64 0, .string ⟨#[]⟩, .string ⟨#[]⟩, .string ⟨#[]⟩, .string ⟨#[]⟩, .string ⟨#[]⟩, .string ⟨#[]⟩, .string ⟨#[]⟩, .string ⟨#[]⟩, .string ⟨#[]⟩] 29)) = v0 at *
  have m0 := HMB.out.cell 0; have m1 := HMB.out.cell 1; have m2 := HMB.out.cell 2; have m3 := HMB.out.cell 3; have m4 := HMB.out.cell 4; have m5 := HMB.out.cell 5; have m6 := HMB.out.cell 6; have m7 := HMB.out.cell 7; have m8 := HMB.out.cell 8; have m9 := HMB.out.cell 9; have m10 := HMB.out.cell 10; have m11 := HMB.out.cell 11; have m12 := HMB.out.cell 12; simp at m0 m1 m2 m3 m4 m5 m6 m7 m8 m9 m10 m11 m12
  have r0 := HRB.out.cell 0; have r1 := HRB.out.cell 1; have r2 := HRB.out.cell 2; have r3 := HRB.out.cell 3; have r4 := HRB.out.cell 4; have r5 := HRB.out.cell 5; have r6 := HRB.out.cell 6; have r7 := HRB.out.cell 7; have r8 := HRB.out.cell 8; have r9 := HRB.out.cell 9; have r10 := HRB.out.cell 10; have r11 := HRB.out.cell 11; have r12 := HRB.out.cell 12; simp at r0 r1 r2 r3 r4 r5 r6 r7 r8 r9 r10 r11 r12; have rf := HRB.out.frozen
  go_wp2_with (first | (go_at_call 88; (with_reducible refine (HST.out _).mono ?_); rintro e w1 ⟨rfl, ho⟩; replace HMB := hide (HMB.out.only ho (by simp)); replace HRB := hide (HRB.out.only ho (by simp)); replace HT := hide (HT.out.only ho (by simp)); replace HO := hide (HO.out.trans ho); clear ho; (first | (clear m0 m1 m2 m3 m4 m5 m6 m7 m8 m9 m10 m11 m12) | skip); have mf := HMB.out.frozen; have m0 := HMB.out.cell 0; have m1 := HMB.out.cell 1; have m2 := HMB.out.cell 2; have m3 := HMB.out.cell 3; have m4 := HMB.out.cell 4; have m5 := HMB.out.cell 5; have m6 := HMB.out.cell 6; have m7 := HMB.out.cell 7; have m8 := HMB.out.cell 8; have m9 := HMB.out.cell 9; have m10 := HMB.out.cell 10; have m11 := HMB.out.cell 11; have m12 := HMB.out.cell 12; simp at m0 m1 m2 m3 m4 m5 m6 m7 m8 m9 m10 m11 m12; (first | (clear r0 r1 r2 r3 r4 r5 r6 r7 r8 r9 r10 r11 r12 rf) | skip); have r0 := HRB.out.cell 0; have r1 := HRB.out.cell 1; have r2 := HRB.out.cell 2; have r3 := HRB.out.cell 3; have r4 := HRB.out.cell 4; have r5 := HRB.out.cell 5; have r6 := HRB.out.cell 6; have r7 := HRB.out.cell 7; have r8 := HRB.out.cell 8; have r9 := HRB.out.cell 9; have r10 := HRB.out.cell 10; have r11 := HRB.out.cell 11; have r12 := HRB.out.cell 12; simp at r0 r1 r2 r3 r4 r5 r6 r7 r8 r9 r10 r11 r12; have rf := HRB.out.frozen) | (go_at_call 53; (with_reducible refine (HKP.out _).mono ?_); rintro e w2 ⟨rfl, ho⟩; replace HMB := hide (HMB.out.only ho (by simp)); replace HRB := hide (HRB.out.only ho (by simp)); replace HT := hide (HT.out.only ho (by simp)); replace HO := hide (HO.out.trans ho); clear ho; (first | (clear m0 m1 m2 m3 m4 m5 m6 m7 m8 m9 m10 m11 m12) | skip); have mf := HMB.out.frozen; have m0 := HMB.out.cell 0; have m1 := HMB.out.cell 1; have m2 := HMB.out.cell 2; have m3 := HMB.out.cell 3; have m4 := HMB.out.cell 4; have m5 := HMB.out.cell 5; have m6 := HMB.out.cell 6; have m7 := HMB.out.cell 7; have m8 := HMB.out.cell 8; have m9 := HMB.out.cell 9; have m10 := HMB.out.cell 10; have m11 := HMB.out.cell 11; have m12 := HMB.out.cell 12; simp at m0 m1 m2 m3 m4 m5 m6 m7 m8 m9 m10 m11 m12; (first | (clear r0 r1 r2 r3 r4 r5 r6 r7 r8 r9 r10 r11 r12 rf) | skip); have r0 := HRB.out.cell 0; have r1 := HRB.out.cell 1; have r2 := HRB.out.cell 2; have r3 := HRB.out.cell 3; have r4 := HRB.out.cell 4; have r5 := HRB.out.cell 5; have r6 := HRB.out.cell 6; have r7 := HRB.out.cell 7; have r8 := HRB.out.cell 8; have r9 := HRB.out.cell 9; have r10 := HRB.out.cell 10; have r11 := HRB.out.cell 11; have r12 := HRB.out.cell 12; simp at r0 r1 r2 r3 r4 r5 r6 r7 r8 r9 r10 r11 r12; have rf := HRB.out.frozen) | (go_at_call 53; (with_reducible refine (HKC.out _).mono ?_); rintro e w3 ⟨rfl, ho⟩; replace HMB := hide (HMB.out.only ho (by simp)); replace HRB := hide (HRB.out.only ho (by simp)); replace HT := hide (HT.out.only ho (by simp)); replace HO := hide (HO.out.trans ho); clear ho; (first | (clear m0 m1 m2 m3 m4 m5 m6 m7 m8 m9 m10 m11 m12) | skip); have mf := HMB.out.frozen; have m0 := HMB.out.cell 0; have m1 := HMB.out.cell 1; have m2 := HMB.out.cell 2; have m3 := HMB.out.cell 3; have m4 := HMB.out.cell 4; have m5 := HMB.out.cell 5; have m6 := HMB.out.cell 6; have m7 := HMB.out.cell 7; have m8 := HMB.out.cell 8; have m9 := HMB.out.cell 9; have m10 := HMB.out.cell 10; have m11 := HMB.out.cell 11; have m12 := HMB.out.cell 12; simp at m0 m1 m2 m3 m4 m5 m6 m7 m8 m9 m10 m11 m12; (first | (clear r0 r1 r2 r3 r4 r5 r6 r7 r8 r9 r10 r11 r12 rf) | skip); have r0 := HRB.out.cell 0; have r1 := HRB.out.cell 1; have r2 := HRB.out.cell 2; have r3 := HRB.out.cell 3; have r4 := HRB.out.cell 4; have r5 := HRB.out.cell 5; have r6 := HRB.out.cell 6; have r7 := HRB.out.cell 7; have r8 := HRB.out.cell 8; have r9 := HRB.out.cell 9; have r10 := HRB.out.cell 10; have r11 := HRB.out.cell 11; have r12 := HRB.out.cell 12; simp at r0 r1 r2 r3 r4 r5 r6 r7 r8 r9 r10 r11 r12; have rf := HRB.out.frozen))
  go_region_with (first | (go_at_call 90; refine (HDR.out _ (by first | exact HT.out | exact HT.out.only ((Only.refl _ _).drew) (by simp))).mono ?_; rintro e w4 ⟨rfl, ho⟩; (first | (replace ho := undrew ho) | skip); replace HMB := hide (HMB.out.only ho (by simp)); replace HRB := hide (HRB.out.only ho (by simp)); replace HT := hide (HT.out.only ho (by simp)); replace HO := hide (HO.out.trans ho); clear ho; (first | (clear m0 m1 m2 m3 m4 m5 m6 m7 m8 m9 m10 m11 m12) | skip); have mf := HMB.out.frozen; have m0 := HMB.out.cell 0; have m1 := HMB.out.cell 1; have m2 := HMB.out.cell 2; have m3 := HMB.out.cell 3; have m4 := HMB.out.cell 4; have m5 := HMB.out.cell 5; have m6 := HMB.out.cell 6; have m7 := HMB.out.cell 7; have m8 := HMB.out.cell 8; have m9 := HMB.out.cell 9; have m10 := HMB.out.cell 10; have m11 := HMB.out.cell 11; have m12 := HMB.out.cell 12; simp at m0 m1 m2 m3 m4 m5 m6 m7 m8 m9 m10 m11 m12; (first | (clear r0 r1 r2 r3 r4 r5 r6 r7 r8 r9 r10 r11 r12 rf) | skip); have r0 := HRB.out.cell 0; have r1 := HRB.out.cell 1; have r2 := HRB.out.cell 2; have r3 := HRB.out.cell 3; have r4 := HRB.out.cell 4; have r5 := HRB.out.cell 5; have r6 := HRB.out.cell 6; have r7 := HRB.out.cell 7; have r8 := HRB.out.cell 8; have r9 := HRB.out.cell 9; have r10 := HRB.out.cell 10; have r11 := HRB.out.cell 11; have r12 := HRB.out.cell 12; simp at r0 r1 r2 r3 r4 r5 r6 r7 r8 r9 r10 r11 r12; have rf := HRB.out.frozen) | (go_at_call 91; refine (HBD.out _ (by first | exact HT.out | exact HT.out.only ((Only.refl _ _).drew) (by simp))).mono ?_; rintro e w5 ⟨rfl, ho⟩; (first | (replace ho := undrew ho) | skip); replace HMB := hide (HMB.out.only ho (by simp)); replace HRB := hide (HRB.out.only ho (by simp)); replace HT := hide (HT.out.only ho (by simp)); replace HO := hide (HO.out.trans ho); clear ho; (first | (clear m0 m1 m2 m3 m4 m5 m6 m7 m8 m9 m10 m11 m12) | skip); have mf := HMB.out.frozen; have m0 := HMB.out.cell 0; have m1 := HMB.out.cell 1; have m2 := HMB.out.cell 2; have m3 := HMB.out.cell 3; have m4 := HMB.out.cell 4; have m5 := HMB.out.cell 5; have m6 := HMB.out.cell 6; have m7 := HMB.out.cell 7; have m8 := HMB.out.cell 8; have m9 := HMB.out.cell 9; have m10 := HMB.out.cell 10; have m11 := HMB.out.cell 11; have m12 := HMB.out.cell 12; simp at m0 m1 m2 m3 m4 m5 m6 m7 m8 m9 m10 m11 m12; (first | (clear r0 r1 r2 r3 r4 r5 r6 r7 r8 r9 r10 r11 r12 rf) | skip); have r0 := HRB.out.cell 0; have r1 := HRB.out.cell 1; have r2 := HRB.out.cell 2; have r3 := HRB.out.cell 3; have r4 := HRB.out.cell 4; have r5 := HRB.out.cell 5; have r6 := HRB.out.cell 6; have r7 := HRB.out.cell 7; have r8 := HRB.out.cell 8; have r9 := HRB.out.cell 9; have r10 := HRB.out.cell 10; have r11 := HRB.out.cell 11; have r12 := HRB.out.cell 12; simp at r0 r1 r2 r3 r4 r5 r6 r7 r8 r9 r10 r11 r12; have rf := HRB.out.frozen) | (go_at_call 190; refine (HSM.out _ (by first | exact HT.out | exact HT.out.only ((Only.refl _ _).drew) (by simp))).mono ?_; rintro e w6 ⟨rfl, ho⟩; (first | (replace ho := undrew ho) | skip); replace HMB := hide (HMB.out.only ho (by simp)); replace HRB := hide (HRB.out.only ho (by simp)); replace HT := hide (HT.out.only ho (by simp)); replace HO := hide (HO.out.trans ho); clear ho; (first | (clear m0 m1 m2 m3 m4 m5 m6 m7 m8 m9 m10 m11 m12) | skip); have mf := HMB.out.frozen; have m0 := HMB.out.cell 0; have m1 := HMB.out.cell 1; have m2 := HMB.out.cell 2; have m3 := HMB.out.cell 3; have m4 := HMB.out.cell 4; have m5 := HMB.out.cell 5; have m6 := HMB.out.cell 6; have m7 := HMB.out.cell 7; have m8 := HMB.out.cell 8; have m9 := HMB.out.cell 9; have m10 := HMB.out.cell 10; have m11 := HMB.out.cell 11; have m12 := HMB.out.cell 12; simp at m0 m1 m2 m3 m4 m5 m6 m7 m8 m9 m10 m11 m12; (first | (clear r0 r1 r2 r3 r4 r5 r6 r7 r8 r9 r10 r11 r12 rf) | skip); have r0 := HRB.out.cell 0; have r1 := HRB.out.cell 1; have r2 := HRB.out.cell 2; have r3 := HRB.out.cell 3; have r4 := HRB.out.cell 4; have r5 := HRB.out.cell 5; have r6 := HRB.out.cell 6; have r7 := HRB.out.cell 7; have r8 := HRB.out.cell 8; have r9 := HRB.out.cell 9; have r10 := HRB.out.cell 10; have r11 := HRB.out.cell 11; have r12 := HRB.out.cell 12; simp at r0 r1 r2 r3 r4 r5 r6 r7 r8 r9 r10 r11 r12; have rf := HRB.out.frozen))
  all_goals
    have ho := ((Only.refl [w.heap.size] w6).setCell (p := ⟨w.heap.size, 11, none⟩) (.inl (by simp)) (.string s1)).setCell (p := ⟨w.heap.size, 12, none⟩) (.inl (by simp)) (.string ⟨#[48]⟩)
    replace HMB := hide (show Blk ((w6.setCell ⟨w.heap.size, 11, none⟩ (.string s1)).setCell ⟨w.heap.size, 12, none⟩ (.string ⟨#[48]⟩)) w.heap.size 29 #[.int .i64 k, .int .u32 (s : Nat), .int .u32 (r : Nat), .int .u64 (c : Nat), .string x4, .string x5, .string x6, .string x7, .string x8, .string x9, .string x10, .string s1, .string ⟨#[48]⟩] from (by have h := (HMB.out.set_ 11 (.string s1)).set_ 12 (.string ⟨#[48]⟩); simp only [List.setIfInBounds_toArray, List.set_cons_zero, List.set_cons_succ] at h; exact h))
    replace HRB := hide (HRB.out.only ho (by simp))
    replace HO := hide ((HO.out.mono (S' := [w.heap.size]) (by simp)).trans ho |>.mono (S' := []) (by simp))
    replace HT := hide (HTW.out.only HO.out (by simp))
    clear ho
    generalize ((w6.setCell ⟨w.heap.size, 11, none⟩ (.string s1)).setCell ⟨w.heap.size, 12, none⟩ (.string ⟨#[48]⟩)) = w7 at *
    clear m0 m1 m2 m3 m4 m5 m6 m7 m8 m9 m10 m11 m12 mf
    have mf := HMB.out.frozen
    have m0 := HMB.out.cell 0
    have m1 := HMB.out.cell 1
    have m2 := HMB.out.cell 2
    have m3 := HMB.out.cell 3
    have m4 := HMB.out.cell 4
    have m5 := HMB.out.cell 5
    have m6 := HMB.out.cell 6
    have m7 := HMB.out.cell 7
    have m8 := HMB.out.cell 8
    have m9 := HMB.out.cell 9
    have m10 := HMB.out.cell 10
    have m11 := HMB.out.cell 11
    have m12 := HMB.out.cell 12
    simp at m0 m1 m2 m3 m4 m5 m6 m7 m8 m9 m10 m11 m12
    clear r0 r1 r2 r3 r4 r5 r6 r7 r8 r9 r10 r11 r12 rf
    have r0 := HRB.out.cell 0
    have r1 := HRB.out.cell 1
    have r2 := HRB.out.cell 2
    have r3 := HRB.out.cell 3
    have r4 := HRB.out.cell 4
    have r5 := HRB.out.cell 5
    have r6 := HRB.out.cell 6
    have r7 := HRB.out.cell 7
    have r8 := HRB.out.cell 8
    have r9 := HRB.out.cell 9
    have r10 := HRB.out.cell 10
    have r11 := HRB.out.cell 11
    have r12 := HRB.out.cell 12
    simp at r0 r1 r2 r3 r4 r5 r6 r7 r8 r9 r10 r11 r12
    have rf := HRB.out.frozen
    go_wp2_with (go_at_call 109; refine (HTM.out _).mono ?_; rintro e w9 ⟨ho, v, rfl, hrd⟩; obtain ⟨A, cap, hv, hcc, hmm⟩ := hrd.form; replace hv : v = .slice A n cap := (by rw [HN.out, hv]; simp [strc]); subst hv; clear hrd hcc hmm; replace HMB := hide (HMB.out.only ho (by simp)); replace HRB := hide (HRB.out.only ho (by simp)); replace HT := hide (HT.out.only ho (by simp)); replace HO := hide (HO.out.trans ho); clear ho; (first | (clear m0 m1 m2 m3 m4 m5 m6 m7 m8 m9 m10 m11 m12) | skip); have mf := HMB.out.frozen; have m0 := HMB.out.cell 0; have m1 := HMB.out.cell 1; have m2 := HMB.out.cell 2; have m3 := HMB.out.cell 3; have m4 := HMB.out.cell 4; have m5 := HMB.out.cell 5; have m6 := HMB.out.cell 6; have m7 := HMB.out.cell 7; have m8 := HMB.out.cell 8; have m9 := HMB.out.cell 9; have m10 := HMB.out.cell 10; have m11 := HMB.out.cell 11; have m12 := HMB.out.cell 12; simp at m0 m1 m2 m3 m4 m5 m6 m7 m8 m9 m10 m11 m12; (first | (clear r0 r1 r2 r3 r4 r5 r6 r7 r8 r9 r10 r11 r12 rf) | skip); have r0 := HRB.out.cell 0; have r1 := HRB.out.cell 1; have r2 := HRB.out.cell 2; have r3 := HRB.out.cell 3; have r4 := HRB.out.cell 4; have r5 := HRB.out.cell 5; have r6 := HRB.out.cell 6; have r7 := HRB.out.cell 7; have r8 := HRB.out.cell 8; have r9 := HRB.out.cell 9; have r10 := HRB.out.cell 10; have r11 := HRB.out.cell 11; have r12 := HRB.out.cell 12; simp at r0 r1 r2 r3 r4 r5 r6 r7 r8 r9 r10 r11 r12; have rf := HRB.out.frozen)
    refine bodyPost_ret (results_cell_two rfl _ _ (w.heap.size + 1) 29 _ (0, 0) _ rfl (set13 HRB.out (.int .i64 k) (.int .u32 (s : Nat)) (.int .u32 (r : Nat)) (.int .u64 (c : Nat)) (.string x4) (.string x5) (.string x6) (.string x7) (.string x8) (.string x9) (.string x10) (.string s1) (.string ⟨#[48]⟩)) Tryz.underlying29 rfl (by kernel_rfl)) rfl ?_
    exact signpost HV.out (only13 HO.out (.inr (by omega)) (.int .i64 k) (.int .u32 (s : Nat)) (.int .u32 (r : Nat)) (.int .u64 (c : Nat)) (.string x4) (.string x5) (.string x6) (.string x7) (.string x8) (.string x9) (.string x10) (.string s1) (.string ⟨#[48]⟩))
end
end Go.Proofs.YtcokjoidpnfjhaaGreatDoor

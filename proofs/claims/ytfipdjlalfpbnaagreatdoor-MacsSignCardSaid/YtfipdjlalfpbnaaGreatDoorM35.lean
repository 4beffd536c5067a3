/-
  Walks and plain words (texts Mc3, Tz, Ms1, Hs, Tk). No condition beyond those that each theorem states.
-/
import Derived.Deep.RegionHeld3
import Derived.Deep.MidRow
import Derived.OrdersHeld
import Derived.Test.YtfipdjlalfpbnaaGreatDoorM01
import Derived.Test.YtfipdjlalfpbnaaGreatDoorM25
import Derived.Test.YtfipdjlalfpbnaaGreatDoorM31
import Derived.Test.YtfipdjlalfpbnaaGreatDoorM32
import Derived.Test.YtfipdjlalfpbnaaGreatDoorM34
namespace Go.Proofs.YtfipdjlalfpbnaaGreatDoor
section
open Go.RowKit Go.Deep

set_option maxRecDepth 100000 in
set_option maxHeartbeats 12800000 in
theorem Asks_any (w : World) (m : Mg) (hF : m.Fine) : Calls Tryz.prog 13 #[.agg m.cells] w (RetB (startsM m) w) := by
  have HRR := hide (fun W => RightR_any W m hF)
  unfold RetB at HRR
  have HY := hide (fun (h : m.k ≤ 2) => show startsM m = rightM m by unfold startsM; rw [decide_eq_true h]; rfl)
  have HN := hide (fun (h : ¬ m.k ≤ 2) => show startsM m = false by unfold startsM; rw [decide_eq_false h]; rfl)
  generalize startsM m = ss at *
  generalize rightM m = rr at *
  obtain ⟨k, s, r, c, x4, x5, x6, x7, x8, x9, x10, x11, x12⟩ := m
  unfold Mg.cells at HRR ⊢
  simp only at HRR HY HN ⊢
  have HMB := hide (Blk.new w 25 #[.int .i64 k, .int .u32 (s : Nat), .int .u32 (r : Nat), .int .u64 (c : Nat), .string x4, .string x5, .string x6, .string x7, .string x8, .string x9, .string x10, .string x11, .string x12])
  have HO := hide ((Only.refl [] w).alloc (.cells #[.int .i64 k, .int .u32 (s : Nat), .int .u32 (r : Nat), .int .u64 (c : Nat), .string x4, .string x5, .string x6, .string x7, .string x8, .string x9, .string x10, .string x11, .string x12] 25))
  have m0 := HMB.out.cell 0; have m1 := HMB.out.cell 1; have m2 := HMB.out.cell 2; have m3 := HMB.out.cell 3; have m4 := HMB.out.cell 4; have m5 := HMB.out.cell 5; have m6 := HMB.out.cell 6; have m7 := HMB.out.cell 7; have m8 := HMB.out.cell 8; have m9 := HMB.out.cell 9; have m10 := HMB.out.cell 10; have m11 := HMB.out.cell 11; have m12 := HMB.out.cell 12; simp at m0 m1 m2 m3 m4 m5 m6 m7 m8 m9 m10 m11 m12
  clear hF
  by_cases h : k ≤ 2
  · have HV := hide (HY.out h)
    go_enter Tryz.func13, Tryz.ntmps13
    go_wp2_with (go_at_call 49; refine (HRR.out _).mono ?_; rintro e w2 ⟨rfl, ho⟩; replace HO := hide (HO.out.trans ho); clear ho)
    go_ret
    exact retb HV.out HO.out
  · have HV := hide (HN.out h)
    go_enter Tryz.func13, Tryz.ntmps13
    go_wp2_with fail
    go_ret
    exact retb HV.out HO.out

set_option maxRecDepth 100000 in
set_option maxHeartbeats 12800000 in
theorem Pub_any (w : World) (p : ByteArray) (hp : p.size ≤ maxLen) : Calls Tryz.prog 15 #[.string p] w (RetB (decide (kindT p = 5)) w) := by
  have HP := hide (readR_what w p hp)
  rw [what_kind]
  obtain ⟨⟨K, N, B, L⟩, hw⟩ : ∃ r, whatV p = r := ⟨_, rfl⟩
  rw [hw] at HP ⊢
  simp only at HP ⊢
  have hf : ∀ (A1 A2 : Option Addr) (n1 c1 n2 c2 : Nat) (W : World), (Instr.field 77 (.agg #[.int .i64 K, .int .u64 (N : Nat), .slice A1 n1 c1, .slice A2 n2 c2]) 0).run Tryz.prog W = .ok (.int .i64 K) W := fun A1 A2 n1 c1 n2 c2 W => by kernel_rfl
  have HV := hide (show decide (K = 5) = (K == 5) by rw [Bool.eq_iff_iff]; simp)
  clear hw
  go_enter Tryz.func15, Tryz.ntmps15
  go_wp2_with (go_at_call 39; refine HP.out.mono ?_; rintro e w2 ⟨bv, pv, rfl, ho, hb, hp⟩; obtain ⟨A1, cap1, rfl, _, _⟩ := hb.formb; obtain ⟨A2, cap2, rfl, _, _⟩ := hp.form; have HO := hide ho; clear ho hb hp)
  go_ret
  exact retb HV.out HO.out

set_option maxRecDepth 100000 in
set_option maxHeartbeats 12800000 in
theorem FirstR_any (w : World) (m : Mg) (p : ByteArray) (hF : m.Fine) (hp : p.size ≤ maxLen) : Calls Tryz.prog 16 #[.agg m.cells, .string p] w (MakePost (sumT (doorT p) (bodyM m)) w) := by
  have HBD := hide (fun W => BodyR_any W m hF)
  unfold MakePost at HBD
  have hbs := body_size m
  generalize bodyM m = bd at *
  obtain ⟨k, s, r, c, x4, x5, x6, x7, x8, x9, x10, x11, x12⟩ := m
  unfold Mg.cells at HBD ⊢
  simp only at HBD ⊢
  have HMB := hide (Blk.new w 25 #[.int .i64 k, .int .u32 (s : Nat), .int .u32 (r : Nat), .int .u64 (c : Nat), .string x4, .string x5, .string x6, .string x7, .string x8, .string x9, .string x10, .string x11, .string x12])
  have HO := hide ((Only.refl [] w).alloc (.cells #[.int .i64 k, .int .u32 (s : Nat), .int .u32 (r : Nat), .int .u64 (c : Nat), .string x4, .string x5, .string x6, .string x7, .string x8, .string x9, .string x10, .string x11, .string x12] 25))
  clear hF
  go_enter Tryz.func16, Tryz.ntmps16
  go_upto_region 1 with fail
  generalize (w.alloc (.cells #[.int .i64 k, .int .u32 (s : Nat), .int .u32 (r : Nat), .int .u64 (c : Nat), .string x4, .string x5, .string x6, .string x7, .string x8, .string x9, .string x10, .string x11, .string x12] 25)) = wb at *
  refine wp_region_held_drew (S := fun W => Only [] wb W) (by kernel_rfl) (by exact (Only.refl [] wb).drew) (fun hHeld => ?_)
  refine wpAnyH_take (i := 0) (v := ?_) rfl (by kernel_rfl) (by kernel_rfl) (by kernel_rfl) (fun _ _ _ h => h) (Or.inl ⟨by rfl, ?_⟩) (by assumption) ?_
  rotate_left
  · (intro w hSw; (try dsimp only at hSw); go_simp; try with_reducible rfl)
  try simp only [List.getElem_toArray, List.getElem_cons_zero, Act.put, List.setIfInBounds_toArray, List.set_cons_zero, List.set_cons_succ]
  refine wpAnyH_take (i := 3) (v := ?_) rfl (by kernel_rfl) (by kernel_rfl) (by kernel_rfl) (fun _ _ _ h => h) (Or.inl ⟨by rfl, ?_⟩) (by assumption) ?_
  rotate_left
  · (intro w hSw; (try dsimp only at hSw); have HMw := HMB.out.only hSw (by simp); have m0 := (hide HMw).out.cell 0; have m1 := (hide HMw).out.cell 1; have m2 := (hide HMw).out.cell 2; have m3 := (hide HMw).out.cell 3; have m4 := (hide HMw).out.cell 4; have m5 := (hide HMw).out.cell 5; have m6 := (hide HMw).out.cell 6; have m7 := (hide HMw).out.cell 7; have m8 := (hide HMw).out.cell 8; have m9 := (hide HMw).out.cell 9; have m10 := (hide HMw).out.cell 10; have m11 := (hide HMw).out.cell 11; have m12 := (hide HMw).out.cell 12; simp at m0 m1 m2 m3 m4 m5 m6 m7 m8 m9 m10 m11 m12; go_simp; try with_reducible rfl)
  try simp only [List.getElem_toArray, List.getElem_cons_succ, List.getElem_cons_zero, Act.put, List.setIfInBounds_toArray, List.set_cons_zero, List.set_cons_succ]
  refine wpAnyH_ready (rs := [1]) (by kernel_rfl) (by simp) ?_
  refine AllReadyH.cons rfl (fun K hK => ?_) AllReadyH.nil
  go_simp
  refine hK.out _ _ (by exact hHeld.alloc _) (fun hHeld => ?_)
  clear hK K
  try simp only [List.getElem_toArray, List.getElem_cons_succ, List.getElem_cons_zero, Act.put, List.setIfInBounds_toArray, List.set_cons_zero, List.set_cons_succ]
  refine wpAnyH_ready (rs := [2]) (by kernel_rfl) (by simp) ?_
  refine AllReadyH.cons rfl (fun K hK => ?_) AllReadyH.nil
  go_simp
  (go_at_call 59; refine (hashR_new2 wb.drew wb.heap.size rfl ⟨#[120, 54, 100, 54, 49, 54, 51, 51, 49]⟩ p (by unfold maxLen; show 9 ≤ _; omega) hp).mono ?_; rintro e wz ⟨rfl, ho0⟩; have ho := undrew ho0; have hHeld := Only.refl [] wb)
  refine hK.out _ _ (by exact hHeld.trans ho) (fun hHeld => ?_)
  clear hK K ho
  try simp only [List.getElem_toArray, List.getElem_cons_succ, List.getElem_cons_zero, Act.put, List.setIfInBounds_toArray, List.set_cons_zero, List.set_cons_succ]
  refine wpAnyH_ready (rs := [4]) (by kernel_rfl) (by simp) ?_
  refine AllReadyH.cons rfl (fun K hK => ?_) AllReadyH.nil
  go_simp
  (go_at_call 60; refine (HBD.out _).mono ?_; rintro e wz ⟨rfl, ho⟩)
  refine hK.out _ _ (by exact hHeld.trans ho) (fun hHeld => ?_)
  clear hK K ho
  try simp only [List.getElem_toArray, List.getElem_cons_succ, List.getElem_cons_zero, Act.put, List.setIfInBounds_toArray, List.set_cons_zero, List.set_cons_succ]
  refine wpAnyH_ready (rs := [5]) (by kernel_rfl) (by simp) ?_
  refine AllReadyH.cons rfl (fun K hK => ?_) AllReadyH.nil
  go_simp
  (go_at_call 58; refine (MacR_any _ (doorT p) bd (door_size p) hbs).mono ?_; rintro e wz ⟨rfl, ho⟩)
  refine hK.out _ _ (by exact hHeld.trans ho) (fun hHeld => ?_)
  clear hK K ho
  try simp only [List.getElem_toArray, List.getElem_cons_succ, List.getElem_cons_zero, Act.put, List.setIfInBounds_toArray, List.set_cons_zero, List.set_cons_succ]
  refine wpAnyH_take (i := 6) (v := ?_) rfl (by kernel_rfl) (by kernel_rfl) (by kernel_rfl) (fun _ _ _ h => h) (Or.inl ⟨by rfl, ?_⟩) (by assumption) ?_
  rotate_left
  · (intro w hSw; (try dsimp only at hSw); go_simp; try with_reducible rfl)
  try simp only [List.getElem_toArray, List.getElem_cons_succ, List.getElem_cons_zero, Act.put, List.setIfInBounds_toArray, List.set_cons_zero, List.set_cons_succ]
  refine wpAnyH_done (by kernel_rfl) ?_ _
  go_wp2_with fail
  go_ret
  exact makepost rfl (HO.out.trans hHeld)

noncomputable def sec2 (m : Mg) (c : ByteArray) : ByteArray := if c = ByteArray.empty then ⟨#[48]⟩ else sumT c (signedM m)
theorem signed_size2 (m : Mg) : (signedM m).size ≤ maxLen := by
  unfold signedM
  split
  · exact Nat.zero_le _
  · exact make_size' _ _ _ _ (by omega)
set_option maxRecDepth 100000 in
set_option maxHeartbeats 12800000 in
theorem SecondR_any (w : World) (m : Mg) (p : ByteArray) (hF : m.Fine) (hp : p.size ≤ maxLen) : Calls Tryz.prog 19 #[.agg m.cells, .string p] w (MakePost (sec2 m p) w) := by
  have HSD := hide (fun W => WSignedR_any W m hF)
  unfold MakePost at HSD
  have hbs := signed_size2 m
  have HE := hide (fun (h : p = ByteArray.empty) => show sec2 m p = ⟨#[48]⟩ by unfold sec2; rw [if_pos h])
  have HN := hide (fun (h : ¬ p = ByteArray.empty) => show sec2 m p = sumT p (signedM m) by unfold sec2; rw [if_neg h])
  generalize signedM m = bd at *
  generalize sec2 m p = rs at *
  obtain ⟨k, s, r, c, x4, x5, x6, x7, x8, x9, x10, x11, x12⟩ := m
  unfold Mg.cells at HSD ⊢
  simp only at HSD ⊢
  have HMB := hide (Blk.new w 25 #[.int .i64 k, .int .u32 (s : Nat), .int .u32 (r : Nat), .int .u64 (c : Nat), .string x4, .string x5, .string x6, .string x7, .string x8, .string x9, .string x10, .string x11, .string x12])
  have HO := hide ((Only.refl [] w).alloc (.cells #[.int .i64 k, .int .u32 (s : Nat), .int .u32 (r : Nat), .int .u64 (c : Nat), .string x4, .string x5, .string x6, .string x7, .string x8, .string x9, .string x10, .string x11, .string x12] 25))
  have m0 := HMB.out.cell 0; have m1 := HMB.out.cell 1; have m2 := HMB.out.cell 2; have m3 := HMB.out.cell 3; have m4 := HMB.out.cell 4; have m5 := HMB.out.cell 5; have m6 := HMB.out.cell 6; have m7 := HMB.out.cell 7; have m8 := HMB.out.cell 8; have m9 := HMB.out.cell 9; have m10 := HMB.out.cell 10; have m11 := HMB.out.cell 11; have m12 := HMB.out.cell 12; simp at m0 m1 m2 m3 m4 m5 m6 m7 m8 m9 m10 m11 m12
  clear hF
  by_cases h : p = ByteArray.empty
  · have HV := hide (HE.out h)
    have e3 : p.toList.isEmpty = true := by rw [h]; kernel_rfl
    clear h HE HN
    go_enter Tryz.func19, Tryz.ntmps19
    go_wp2_with fail
    go_ret
    exact makepost HV.out HO.out
  · have HV := hide (HN.out h)
    have e3 : p.toList.isEmpty = false := by
      cases h2 : p.toList.isEmpty with
      | false => rfl
      | true => exact absurd (toList_inj ((List.isEmpty_iff.1 h2).trans (by kernel_rfl))) h
    clear h HE HN
    go_enter Tryz.func19, Tryz.ntmps19
    go_wp2_with (first
      | (go_at_call 61; refine (HSD.out _).mono ?_; rintro e w2 ⟨rfl, ho⟩; replace HO := hide (HO.out.trans ho); clear ho)
      | (go_at_call 58; refine (MacR_any _ p bd hp hbs).mono ?_; rintro e w3 ⟨rfl, ho⟩; replace HO := hide (HO.out.trans ho); clear ho))
    go_ret
    exact makepost HV.out HO.out
end
section
open Go.RowKit Go.Deep

theorem txt_le (k : Int) (n : Nat) (hn : n < 18446744073709551616) (b : List UInt8) (l : List ByteArray) (h5 : 5 ≤ k) : (txtL k n b l).length ≤ sumL l + 24 := by
  have h1 := join_le l
  have h2 := dec_len n hn
  unfold txtL
  rw [if_neg (by omega), if_neg (by omega), if_neg (by omega)]
  split
  · split <;> simp only [List.length_cons, List.length_append, List.length_nil] <;> omega
  · simp only [List.length_cons, List.length_append, List.length_nil]
    omega
theorem sort_sum (k : Int) (l : List ByteArray) (h : k = 6 → l.length = 2) : sumL (sortV k l) = sumL l := by
  by_cases h6 : k = 6
  · match l, h h6 with
    | [x, y], _ =>
      unfold sortV
      split
      · show y.size + 1 + (x.size + 1 + 0) = x.size + 1 + (y.size + 1 + 0)
        omega
      · rfl
  · rw [sort_not6 h6]
theorem made_of {k : Int} {n : Nat} (b : List UInt8) {l : List ByteArray} (h5 : 5 ≤ k) (h11 : k ≤ 11) (hn : n < 18446744073709551616) (h2 : numberedV k = true → allowedV k n = true) (h3 : fitsV k l.length = true)
    (h4 : ∀ p ∈ l, (parseV p).isSome = true) (hs : sumL l ≤ 65000) : makeV k n b l = bytesOf (txtL k n b (sortV k l)) := by
  refine make_is ⟨by omega, h11⟩ h2 h3 (fun j hj => ?_) ?_
  · have h := h4 (l.getD j ByteArray.empty) (by rw [List.getD_eq_getElem?_getD, List.getElem?_eq_getElem hj]; exact List.getElem_mem hj)
    obtain ⟨nd, h1⟩ := Option.isSome_iff_exists.1 h
    have h6 := kind_pos (k := nd.1) (n := nd.2.1) (b := nd.2.2.1) (l := nd.2.2.2) h1
    unfold kindT
    rw [h1]
    show nd.1 ≠ 0
    omega
  · have h6 := txt_le k n hn b (sortV k l) h5
    rw [sort_sum k l (fun h => by subst h; obtain ⟨p, q, rfl⟩ := fits_six h3; rfl)] at h6
    omega
/-- A term of at most so many bytes. -/
def Tn (N : Nat) (s : ByteArray) : Prop := (parseV s).isSome = true ∧ s.size ≤ N
theorem Tn.mono {M N : Nat} {s : ByteArray} (h : Tn M s) (hn : M ≤ N) : Tn N s := ⟨h.1, Nat.le_trans h.2 hn⟩
theorem Tn.ne {N : Nat} {s : ByteArray} (h : Tn N s) : s ≠ ByteArray.empty := by
  rintro rfl
  have h1 := h.1
  rw [show parseV ByteArray.empty = none from by kernel_rfl] at h1
  cases h1
theorem Tn.kind {N : Nat} {s : ByteArray} (h : Tn N s) : kindT s ≠ 0 := by
  obtain ⟨nd, h1⟩ := Option.isSome_iff_exists.1 h.1
  have h6 := kind_pos (k := nd.1) (n := nd.2.1) (b := nd.2.2.1) (l := nd.2.2.2) h1
  unfold kindT
  rw [h1]
  show nd.1 ≠ 0
  omega
theorem tn_make {k : Int} {n : Nat} {b : List UInt8} {l : List ByteArray} (h5 : 5 ≤ k) (h11 : k ≤ 11) (hn : n < 18446744073709551616) (h2 : numberedV k = true → allowedV k n = true) (h3 : fitsV k l.length = true)
    (h4 : ∀ p ∈ l, (parseV p).isSome = true) (N : Nat) (hs : sumL l + 24 ≤ N) (hN : N ≤ 65000) : Tn N (makeV k n b l) := by
  have he := made_of b h5 h11 hn h2 h3 h4 (by omega)
  have hne : makeV k n b l ≠ ByteArray.empty := by rw [he]; exact bytes_ne (txt_ne _ _ _ _)
  refine ⟨by rw [make_read hn hne]; rfl, ?_⟩
  rw [he, bytesOf_size]
  have h6 := txt_le k n hn b (sortV k l) h5
  rw [sort_sum k l (fun h => by subst h; obtain ⟨p, q, rfl⟩ := fits_six h3; rfl)] at h6
  omega
section
variable {a c d : Nat} {x y z : ByteArray}
theorem tn_two (k : Int) (hk : k = 6 ∨ k = 7 ∨ k = 9) (hx : Tn a x) (hy : Tn c y) (h : a + c ≤ 60000) : Tn (a + c + 26) (makeV k 0 [] [x, y]) :=
  tn_make (by omega) (by omega) (by omega) (fun h => by rcases hk with rfl | rfl | rfl <;> cases h) (by rcases hk with rfl | rfl | rfl <;> (show fitsV _ 2 = true; decide)) (by intro p hp; simp at hp; rcases hp with rfl | rfl; exact hx.1; exact hy.1) _ (by have := hx.2; have := hy.2; show x.size + 1 + (y.size + 1 + 0) + 24 ≤ a + c + 26; omega) (by omega)
theorem tn_seal (n : Nat) (hn : n < 18446744073709551616) (hx : Tn a x) (hy : Tn c y) (hz : Tn d z) (h : a + c + d ≤ 60000) : Tn (a + c + d + 27) (makeV 10 n [] [x, y, z]) :=
  tn_make (by omega) (by omega) hn (fun _ => by unfold allowedV; rw [if_neg (by decide), if_neg (by decide)]) (by show fitsV 10 3 = true; decide) (by intro p hp; simp at hp; rcases hp with rfl | rfl | rfl; exact hx.1; exact hy.1; exact hz.1) _ (by have := hx.2; have := hy.2; have := hz.2; show x.size + 1 + (y.size + 1 + (z.size + 1 + 0)) + 24 ≤ a + c + d + 27; omega) (by omega)
theorem tn_num (n : Nat) (hn : n < 18446744073709551616) : Tn 21 (numT n) := by
  have hd := dec_len n hn
  have h1 : numT n = bytesOf (txtL 3 n [] (sortV 3 [])) := make_is (k := 3) (n := n) (b := []) (l := []) (by decide) (fun _ => rfl) (by decide) (fun j hj => by simp at hj) (by
    show (letU 3 :: (if (3 : Int) = 2 ∨ (3 : Int) = 3 then Lib.decDigits n else _)).length ≤ 65536
    rw [if_pos (Or.inr rfl), List.length_cons]
    omega)
  have hne : numT n ≠ ByteArray.empty := by rw [h1]; exact bytes_ne (txt_ne _ _ _ _)
  refine ⟨by unfold numT at hne ⊢; rw [make_read hn hne]; rfl, ?_⟩
  rw [h1, bytesOf_size]
  show (letU 3 :: (if (3 : Int) = 2 ∨ (3 : Int) = 3 then Lib.decDigits n else _)).length ≤ 21
  rw [if_pos (Or.inr rfl), List.length_cons]
  omega
end
end
section
open Go.RowKit Go.Deep

theorem ms_fit {N : Nat} {s : ByteArray} (h : Tn N s) (hN : N ≤ 65535) : fitW s = true := by
  unfold fitW
  rw [decide_eq_true (Nat.le_trans h.2 hN), h.1]
  rfl
theorem ms_fit_is {s : ByteArray} (h : fitW s = true) : Tn s.size s := by
  unfold fitW at h
  rw [Bool.and_eq_true] at h
  exact ⟨h.2, Nat.le_refl _⟩
theorem ms_kind {N : Nat} {s : ByteArray} (h : kindT s ≠ 0) (hs : s.size ≤ N) : Tn N s := by
  refine ⟨?_, hs⟩
  unfold kindT at h
  cases hp : parseV s with
  | none => rw [hp] at h; exact absurd rfl h
  | some nd => rfl
theorem kind_empty : kindT ByteArray.empty = 0 := by kernel_rfl
theorem ms_zero : Tn 1 oneT := ⟨by kernel_rfl, Nat.le_refl _⟩
/-- The message with other sums. -/
def macd (m : Mg) (a b : ByteArray) : Mg := ⟨m.k, m.s, m.r, m.c, m.x4, m.x5, m.x6, m.x7, m.x8, m.x9, m.x10, a, b⟩
theorem starts_is {m : Mg} (h : startsM m = true) : rightM m = true ∧ (m.k = 1 ∨ m.k = 2) := by
  unfold startsM at h
  rw [Bool.and_eq_true, decide_eq_true_eq] at h
  have h2 := h.2
  unfold rightM at h2
  rw [Bool.and_eq_true, decide_eq_true_eq] at h2
  exact ⟨h.2, by have := h2.1; omega⟩
theorem starts_fits {m : Mg} (h : startsM m = true) : fitW m.x11 = true ∧ fitW m.x12 = true ∧ ∀ p ∈ (textsM m).take ((textsM m).length - 2), fitW p = true := by
  obtain ⟨hr, hk⟩ := starts_is h
  unfold rightM at hr
  rw [Bool.and_eq_true, Bool.and_eq_true, List.all_eq_true] at hr
  obtain ⟨_, hf, _⟩ := hr
  refine ⟨?_, ?_, fun p hp => hf p (List.mem_of_mem_take hp)⟩
  · refine hf _ ?_
    unfold textsM
    rcases hk with hk | hk
    · rw [if_pos hk]; simp
    · rw [if_neg (by omega), if_pos hk]; simp
  · refine hf _ ?_
    unfold textsM
    rcases hk with hk | hk
    · rw [if_pos hk]; simp
    · rw [if_neg (by omega), if_pos hk]; simp
theorem macd_right {m : Mg} {a b : ByteArray} (h : startsM m = true) (ha : fitW a = true) (hb : fitW b = true) : startsM (macd m a b) = true := by
  obtain ⟨hr, hk⟩ := starts_is h
  obtain ⟨k, s, r, c, x4, x5, x6, x7, x8, x9, x10, x11, x12⟩ := m
  unfold startsM macd
  unfold rightM textsM onlyM at hr ⊢
  simp only at hr hk ⊢
  rcases hk with rfl | rfl
  · rw [Bool.and_eq_true, Bool.and_eq_true, eqM_iff, List.all_eq_true] at hr
    obtain ⟨_, hf, he⟩ := hr
    simp at he hf
    obtain ⟨e1, e2, e3, e4, e5, e6⟩ := he
    subst e1 e2 e3 e4 e5 e6
    rw [Bool.and_eq_true, Bool.and_eq_true, Bool.and_eq_true, eqM_iff, List.all_eq_true]
    refine ⟨rfl, rfl, ?_, by simp⟩
    intro p hp
    simp at hp
    rcases hp with rfl | rfl | rfl | rfl | rfl
    · exact hf.1
    · exact hf.2.1
    · exact hf.2.2.1
    · exact ha
    · exact hb
  · rw [Bool.and_eq_true, Bool.and_eq_true, eqM_iff, List.all_eq_true] at hr
    obtain ⟨_, hf, he⟩ := hr
    simp at he hf
    obtain ⟨e1, e2, e3, e4, e5, e6⟩ := he
    subst e1 e2 e3 e4 e5 e6
    rw [Bool.and_eq_true, Bool.and_eq_true, Bool.and_eq_true, eqM_iff, List.all_eq_true]
    refine ⟨rfl, rfl, ?_, by simp⟩
    intro p hp
    simp at hp
    rcases hp with rfl | rfl | rfl | rfl
    · exact hf.1
    · exact hf.2.1
    · exact ha
    · exact hb
theorem macd_take {m : Mg} (a b : ByteArray) (hk : m.k = 1 ∨ m.k = 2) : (textsM (macd m a b)).take ((textsM (macd m a b)).length - 2) = (textsM m).take ((textsM m).length - 2) := by
  unfold textsM macd
  simp only
  rcases hk with hk | hk
  · rw [if_pos hk, if_pos hk]; rfl
  · rw [if_neg (by omega), if_pos hk, if_neg (by omega), if_pos hk]; rfl
theorem body_is {m : Mg} (h : startsM m = true) : bodyM m = makeV 11 0 [] ([numT m.k.toNat, numT m.s, numT m.r] ++ (textsM m).take ((textsM m).length - 2)) := by
  obtain ⟨hr, hk⟩ := starts_is h
  unfold bodyM
  rw [if_pos ⟨hr, by omega⟩]
theorem macd_body {m : Mg} {a b : ByteArray} (h : startsM m = true) (ha : fitW a = true) (hb : fitW b = true) : bodyM (macd m a b) = bodyM m := by
  rw [body_is h, body_is (macd_right h ha hb), macd_take a b (starts_is h).2]
  rfl
def sizesM (m : Mg) : Nat := m.x4.size + m.x5.size + m.x6.size + m.x7.size + m.x8.size + m.x9.size + m.x10.size + m.x11.size + m.x12.size
theorem take_sum {m : Mg} (hk : m.k = 1 ∨ m.k = 2) : sumL ((textsM m).take ((textsM m).length - 2)) ≤ sizesM m + 3 := by
  unfold textsM sizesM
  rcases hk with hk | hk
  · rw [if_pos hk]; show m.x4.size + 1 + (m.x5.size + 1 + (m.x6.size + 1 + 0)) ≤ _; omega
  · rw [if_neg (by omega), if_pos hk]; show m.x4.size + 1 + (m.x7.size + 1 + 0) ≤ _; omega
theorem body_tn {m : Mg} (h : startsM m = true) (hF : m.Fine) (hs : sizesM m ≤ 3000) : Tn 3200 (bodyM m) := by
  have hk := (starts_is h).2
  rw [body_is h]
  have t1 := tn_num m.k.toNat (by omega)
  have t2 := tn_num m.s (by have := hF.s; omega)
  have t3 := tn_num m.r (by have := hF.r; omega)
  have hts := take_sum hk
  have hff := (starts_fits h).2.2
  generalize (textsM m).take ((textsM m).length - 2) = l at *
  refine tn_make (by omega) (by omega) (by omega) (fun hx => by cases hx) ?_ ?_ _ ?_ (by omega)
  · unfold fitsV
    have e1 : leastV 11 = 0 := by decide
    have e2 : mostV 11 < 0 := by decide
    rw [e1, decide_eq_true e2]
    simp
    omega
  · intro p hp
    simp at hp
    rcases hp with rfl | rfl | rfl | hp
    · exact t1.1
    · exact t2.1
    · exact t3.1
    · exact (ms_fit_is (hff p hp)).1
  · have a1 := t1.2
    have a2 := t2.2
    have a3 := t3.2
    show (numT m.k.toNat).size + 1 + ((numT m.s).size + 1 + ((numT m.r).size + 1 + sumL l)) + 24 ≤ 3200
    omega
theorem door_tn {p : ByteArray} (hk : kindT p = 5) (hs : p.size ≤ 200) : Tn 240 (doorT p) :=
  (tn_two 7 (.inr (.inl rfl)) (show Tn 9 ⟨#[120, 54, 100, 54, 49, 54, 51, 51, 49]⟩ from ⟨by kernel_rfl, Nat.le_refl _⟩) (ms_kind (by omega) hs) (by omega)).mono (by omega)
theorem sum_tn {a b : Nat} {x y : ByteArray} (hx : Tn a x) (hy : Tn b y) (h : a + b ≤ 60000) : Tn (a + b + 26) (sumT x y) := tn_two 9 (.inr (.inr rfl)) hx hy h
theorem sign_back {x y z : ByteArray} (h : signT x y z = true) : x = sumT y z ∧ parseV x = some (9, 0, [], [y, z]) := by
  unfold signT at h
  cases hp : parseV x with
  | none => rw [hp] at h; cases h
  | some nd =>
    obtain ⟨k, n, b, l⟩ := nd
    rw [hp] at h
    simp only [Bool.and_eq_true, decide_eq_true_eq, eqB_iff] at h
    obtain ⟨⟨rfl, h1⟩, h2⟩ := h
    obtain ⟨e1, _, _, hf, _, hn, hb, _⟩ := read_make hp
    obtain ⟨p, q, rfl⟩ : ∃ p q, l = [p, q] := by
      match l, hf with
      | [], hf => exact absurd hf (by decide)
      | [p], hf => exact absurd (show fitsV 9 1 = true from hf) (by decide)
      | [p, q], _ => exact ⟨p, q, rfl⟩
      | p :: q :: r :: l, hf =>
        exfalso
        unfold fitsV at hf
        rw [show mostV 9 = 2 from rfl] at hf
        simp at hf
        omega
    have h1' : p = y := h1
    have h2' : q = z := h2
    subst h1' h2'
    have hn0 := hn rfl
    have hb0 := hb (by omega)
    subst hn0 hb0
    exact ⟨e1.symm, rfl⟩
theorem ms_parse {x y : ByteArray} (h : sumT x y ≠ ByteArray.empty) : parseV (sumT x y) = some (9, 0, [], [x, y]) := make_read (by omega) h
theorem sign_sum {x y : ByteArray} (h : sumT x y ≠ ByteArray.empty) : signT (sumT x y) x y = true := by
  unfold signT
  rw [ms_parse h]
  simp [eqB]
theorem sign_dec {t x y : ByteArray} (ht : kindT t ≠ 0) : signT t x y = (t.toList == (sumT x y).toList) := by
  rw [Bool.eq_iff_iff, beq_iff_eq]
  constructor
  · intro h; rw [(sign_back h).1]
  · intro h
    have h1 : t = sumT x y := toList_inj h
    rw [h1]
    refine sign_sum (fun h2 => ?_)
    rw [h1, h2] at ht
    exact ht kind_empty
theorem first_eq (m : Mg) (p : ByteArray) : firstM m p = (startsM m && (decide (kindT p = 5) && (m.x11.toList == (sumT (doorT p) (bodyM m)).toList))) := by
  unfold firstM
  cases h : startsM m with
  | false => rfl
  | true => rw [sign_dec (ms_fit_is (starts_fits h).1).kind]
theorem second_eq (m : Mg) (c : ByteArray) : secondM m c = (startsM m && (decide (kindT c ≠ 0) && (m.x12.toList == (sec2 m c).toList))) := by
  unfold secondM
  cases h : startsM m with
  | false => rfl
  | true =>
    by_cases hc : kindT c = 0
    · rw [decide_eq_false (fun h => h hc)]; rfl
    · have hce : ¬ c = ByteArray.empty := by rintro rfl; exact hc kind_empty
      rw [sign_dec (ms_fit_is (starts_fits h).2.1).kind]
      unfold sec2
      rw [if_neg hce]
/-- Both sums of a right message. -/
noncomputable def mac1 (m : Mg) (p : ByteArray) : ByteArray := sumT (doorT p) (bodyM m)
noncomputable def mac2 (m : Mg) (p c : ByteArray) : ByteArray := sec2 (macd m (mac1 m p) oneT) c
theorem sign2_macd (m : Mg) (p c : ByteArray) : sign2 m p c = macd m (mac1 m p) (mac2 m p c) := by
  unfold sign2 mac2 sec2
  by_cases hc : c = ByteArray.empty
  · rw [if_pos hc, if_pos hc]; rfl
  · rw [if_neg hc, if_neg hc]; rfl
section
variable {m : Mg} {p c o : ByteArray}
theorem mac1_tn (h : startsM m = true) (hF : m.Fine) (hs : sizesM m ≤ 3000) (hk : kindT p = 5) (hp : p.size ≤ 200) : Tn 3466 (mac1 m p) := sum_tn (door_tn hk hp) (body_tn h hF hs) (by omega)
theorem signed_tn {b : ByteArray} (h : startsM m = true) (hF : m.Fine) (hs : sizesM m ≤ 3000) (hk : kindT p = 5) (hp : p.size ≤ 200) (hb : fitW b = true) : signedM (macd m (mac1 m p) b) = makeV 11 0 [] [bodyM m, mac1 m p] ∧ Tn 6800 (signedM (macd m (mac1 m p) b)) := by
  have t1 := mac1_tn h hF hs hk hp
  have t2 := body_tn h hF hs
  have e : signedM (macd m (mac1 m p) b) = makeV 11 0 [] [bodyM m, mac1 m p] := by
    unfold signedM
    rw [macd_body h (ms_fit t1 (by omega)) hb, if_neg t2.ne]
    rfl
  refine ⟨e, ?_⟩
  rw [e]
  refine tn_make (by omega) (by omega) (by omega) (fun hx => by cases hx) (by show fitsV 11 2 = true; decide) ?_ _ ?_ (by omega)
  · intro q hq
    simp at hq
    rcases hq with rfl | rfl
    · exact t2.1
    · exact t1.1
  · have := t1.2
    have := t2.2
    show (bodyM m).size + 1 + ((mac1 m p).size + 1 + 0) + 24 ≤ 6800
    omega
theorem mac2_tn (h : startsM m = true) (hF : m.Fine) (hs : sizesM m ≤ 3000) (hk : kindT p = 5) (hp : p.size ≤ 200) (hc : c = ByteArray.empty ∨ kindT c ≠ 0) (hc2 : c.size ≤ 200) : Tn 7100 (mac2 m p c) := by
  unfold mac2 sec2
  by_cases he : c = ByteArray.empty
  · rw [if_pos he]; exact ms_zero.mono (by omega)
  · rw [if_neg he]
    exact (sum_tn (ms_kind (hc.resolve_left he) hc2) (signed_tn h hF hs hk hp (ms_fit ms_zero (by omega))).2 (by omega)).mono (by omega)
theorem ok_is (h : okSign m p c = true) : startsM m = true ∧ kindT p = 5 ∧ (c = ByteArray.empty ∨ kindT c ≠ 0) := by
  unfold okSign at h
  rw [Bool.and_eq_true, Bool.and_eq_true, Bool.or_eq_true, decide_eq_true_eq, decide_eq_true_eq, decide_eq_true_eq] at h
  exact h
theorem signed_starts (hb : okSign m p c = true) (hF : m.Fine) (hs : sizesM m ≤ 3000) (hp : p.size ≤ 200) (hc : c.size ≤ 200) : startsM (sign2 m p c) = true := by
  obtain ⟨h1, h2, h3⟩ := ok_is hb
  rw [sign2_macd]
  exact macd_right h1 (ms_fit (mac1_tn h1 hF hs h2 hp) (by omega)) (ms_fit (mac2_tn h1 hF hs h2 hp h3 hc) (by omega))
theorem sign_fine (hb : okSign m p c = true) (hF : m.Fine) (hs : sizesM m ≤ 3000) (hp : p.size ≤ 200) (hc : c.size ≤ 200) : signMV m p c = (0, sign2 m p c) := by
  unfold signMV
  rw [hb, if_pos rfl, if_pos (starts_is (signed_starts hb hF hs hp hc)).1]
theorem signed_body (hb : okSign m p c = true) (hF : m.Fine) (hs : sizesM m ≤ 3000) (hp : p.size ≤ 200) (hc : c.size ≤ 200) : bodyM (sign2 m p c) = bodyM m := by
  obtain ⟨h1, h2, h3⟩ := ok_is hb
  rw [sign2_macd]
  exact macd_body h1 (ms_fit (mac1_tn h1 hF hs h2 hp) (by omega)) (ms_fit (mac2_tn h1 hF hs h2 hp h3 hc) (by omega))
theorem first_of (hb : okSign m p c = true) (hF : m.Fine) (hs : sizesM m ≤ 3000) (hp : p.size ≤ 200) (hc : c.size ≤ 200) : firstM (sign2 m p c) p = true := by
  obtain ⟨h1, h2, h3⟩ := ok_is hb
  unfold firstM
  rw [signed_starts hb hF hs hp hc, decide_eq_true h2, signed_body hb hF hs hp hc, sign2_macd]
  show (true && (true && signT (mac1 m p) (doorT p) (bodyM m))) = true
  rw [Bool.true_and, Bool.true_and]
  exact sign_sum (mac1_tn h1 hF hs h2 hp).ne
theorem first_other (hb : okSign m p c = true) (hF : m.Fine) (hs : sizesM m ≤ 3000) (hp : p.size ≤ 200) (hc : c.size ≤ 200) (h : firstM (sign2 m p c) o = true) : o = p := by
  obtain ⟨h1, h2, h3⟩ := ok_is hb
  unfold firstM at h
  rw [Bool.and_eq_true, Bool.and_eq_true, signed_body hb hF hs hp hc, sign2_macd] at h
  have h5 : signT (mac1 m p) (doorT o) (bodyM m) = true := h.2.2
  have e1 := (sign_back h5).2
  rw [show mac1 m p = sumT (doorT p) (bodyM m) from rfl, ms_parse (show sumT (doorT p) (bodyM m) ≠ _ from (mac1_tn h1 hF hs h2 hp).ne)] at e1
  have e2 : doorT p = doorT o := by simpa using e1
  have n1 := (door_tn h2 hp).ne
  have q1 : parseV (doorT p) = some (7, 0, [], [⟨#[120, 54, 100, 54, 49, 54, 51, 51, 49]⟩, p]) := make_read (by omega) n1
  have q2 : parseV (doorT o) = some (7, 0, [], [⟨#[120, 54, 100, 54, 49, 54, 51, 51, 49]⟩, o]) := make_read (by omega) (show doorT o ≠ _ from e2 ▸ n1)
  rw [e2, q2] at q1
  simpa using q1
theorem second_is (hb : okSign m p c = true) (hF : m.Fine) (hs : sizesM m ≤ 3000) (hp : p.size ≤ 200) (hc : c.size ≤ 200) (o : ByteArray) : secondM (sign2 m p c) o = (decide (kindT o ≠ 0) && signT (mac2 m p c) o (signedM (macd m (mac1 m p) oneT))) := by
  obtain ⟨h1, h2, h3⟩ := ok_is hb
  have f1 := ms_fit (mac1_tn h1 hF hs h2 hp) (by omega)
  have f2 := ms_fit (mac2_tn h1 hF hs h2 hp h3 hc) (by omega)
  unfold secondM
  rw [signed_starts hb hF hs hp hc, sign2_macd, (signed_tn h1 hF hs h2 hp f2).1, (signed_tn h1 hF hs h2 hp (ms_fit ms_zero (by omega))).1]
  rfl
theorem second_of (hb : okSign m p c = true) (hF : m.Fine) (hs : sizesM m ≤ 3000) (hp : p.size ≤ 200) (hc : c.size ≤ 200) : secondM (sign2 m p c) c = !decide (c = ByteArray.empty) := by
  obtain ⟨h1, h2, h3⟩ := ok_is hb
  rw [second_is hb hF hs hp hc]
  by_cases he : c = ByteArray.empty
  · rw [decide_eq_true he, he, decide_eq_false (fun h => h kind_empty)]; rfl
  · rw [decide_eq_false he, decide_eq_true (h3.resolve_left he)]
    have e : mac2 m p c = sumT c (signedM (macd m (mac1 m p) oneT)) := by unfold mac2 sec2; rw [if_neg he]
    rw [e]
    show (true && _) = true
    rw [Bool.true_and]
    refine sign_sum ?_
    rw [← e]
    exact (mac2_tn h1 hF hs h2 hp h3 hc).ne
theorem second_other (hb : okSign m p c = true) (hF : m.Fine) (hs : sizesM m ≤ 3000) (hp : p.size ≤ 200) (hc : c.size ≤ 200) (h : secondM (sign2 m p c) o = true) : o = c := by
  obtain ⟨h1, h2, h3⟩ := ok_is hb
  rw [second_is hb hF hs hp hc, Bool.and_eq_true] at h
  have e1 := (sign_back h.2).2
  by_cases he : c = ByteArray.empty
  · exfalso
    have e : mac2 m p c = oneT := by unfold mac2 sec2; rw [if_pos he]; rfl
    rw [e, show parseV oneT = some (1, 0, [], []) from by kernel_rfl] at e1
    simp at e1
  · have e : mac2 m p c = sumT c (signedM (macd m (mac1 m p) oneT)) := by unfold mac2 sec2; rw [if_neg he]
    rw [e, ms_parse (by rw [← e]; exact (mac2_tn h1 hF hs h2 hp h3 hc).ne)] at e1
    have e2 : c = o := by simpa using e1
    exact e2.symm
/-- What the reference signs. -/
theorem signR_is (h : startsM m = true) (p c : ByteArray) : macd m (sumT (doorT p) (bodyM (macd m oneT oneT))) (sec2 (macd m (sumT (doorT p) (bodyM (macd m oneT oneT))) oneT) c) = sign2 m p c := by
  have hz := ms_fit ms_zero (by omega : 1 ≤ 65535)
  rw [macd_body h hz hz, sign2_macd]
  rfl
end
end
section
open Go.RowKit Go.Deep

theorem blk_there {w : World} {g : Nat} {t : TypeId} {cs : Array Value} (h : Blk w g t cs) (n : Nat) (hn : n = cs.size) : w.there g 0 n := by
  subst hn
  intro j hj
  rw [Nat.zero_add, h.cell]
  exact ⟨by simp [hj], h.frozen j⟩
theorem blk_stored {w : World} {g : Nat} {t : TypeId} {cs : Array Value} (h : Blk w g t cs) (l : List Value) (hl : l.length = cs.size) : Blk (w.setCells g 0 l) g t l.toArray := h.setCells_whole hl
theorem only_stored {S : List Nat} {a w : World} {g : Nat} (h : Only S a w) (hg : a.heap.size ≤ g) (l : List Value) : Only S a (w.setCells g 0 l) := Only.setCells (.inr hg) 0 l h
end
section
open Go.RowKit Go.Deep
theorem zsa {α : Type} {xs : List α} {i : Nat} (h : i < xs.toArray.size) : xs.toArray[i] = xs[i]'(by simpa using h) := List.getElem_toArray h
theorem zsb {α : Type} (a : α) (l2 : List α) (i : Nat) (h : i + 1 < (a :: l2).length) : (a :: l2)[i + 1] = l2[i]'(by simpa using h) := List.getElem_cons_succ a l2 i h
theorem zsc {α : Type} (a : α) (l2 : List α) (h : 0 < (a :: l2).length) : (a :: l2)[0] = a := List.getElem_cons_zero a l2 h
theorem zsd {α : Type} (l : List α) (i : Nat) (a : α) : l.toArray.setIfInBounds i a = (l.set i a).toArray := List.setIfInBounds_toArray l i a
theorem zse {α : Type} (a b : α) (l : List α) : (a :: l).set 0 b = b :: l := List.set_cons_zero
theorem zsf {α : Type} (a b : α) (l : List α) (n : Nat) : (a :: l).set (n + 1) b = a :: l.set n b := List.set_cons_succ
section
variable {P : Program} {ops : Array Oper} {Q : Exit → Act → World → Prop} {md : Region.Mode} {S : World → Prop}
theorem tk (i : Nat) {oi : Oper} {v : Value} {fuel : Nat} {listed l2 : Array Bool} {a a2 : Act} {w : World} (h : wpAnyH P md ops Q S fuel l2 a2 w) (hi : ops[i]? = some oi := by rfl)
    (hs : Region.noSelect ops = true := by kernel_rfl) (hf : Region.free md ops listed i = true := by kernel_rfl) (hr : (Region.ready md ops listed).contains i = true := by kernel_rfl)
    (hQ : ∀ c a w, Q (.panic c) (a.put oi.dst v) w → Q (.panic c) a w := by exact fun _ _ _ h => h) (hw : Region.wanted oi (yielded ops a.tmps) = true := by rfl)
    (hy : ∀ w, S w → (execOp a.eval oi).run P w = .ok (.value v) w := by (intro w hSw; (try dsimp only at hSw); go_simp; try with_reducible rfl)) (hS : S w := by assumption)
    (hl : listed.setIfInBounds i true = l2 := by (try simp only [List.setIfInBounds_toArray, List.set_cons_zero, List.set_cons_succ]) <;> rfl)
    (ha : a.put oi.dst v = a2 := by (try simp only [List.getElem_toArray, List.getElem_cons_succ, List.getElem_cons_zero, Act.put, List.setIfInBounds_toArray, List.set_cons_zero, List.set_cons_succ]) <;> rfl) :
    wpAnyH P md ops Q S (fuel + 1) listed a w := by
  subst hl ha
  exact wpAnyH_take hi hs hf hr hQ (.inl ⟨hw, hy⟩) hS h
theorem tks (i : Nat) {oi : Oper} {fuel : Nat} {listed l2 : Array Bool} {a a2 : Act} {w : World} (h : wpAnyH P md ops Q S fuel l2 a2 w) (hi : ops[i]? = some oi := by rfl)
    (hs : Region.noSelect ops = true := by kernel_rfl) (hf : Region.free md ops listed i = true := by kernel_rfl) (hr : (Region.ready md ops listed).contains i = true := by kernel_rfl)
    (hQ : ∀ c a w, Q (.panic c) (a.put oi.dst undef) w → Q (.panic c) a w := by exact fun _ _ _ h => h) (hw : Region.wanted oi (yielded ops a.tmps) = false := by rfl) (hS : S w := by assumption)
    (hl : listed.setIfInBounds i true = l2 := by (try simp only [List.setIfInBounds_toArray, List.set_cons_zero, List.set_cons_succ]) <;> rfl)
    (ha : a.put oi.dst undef = a2 := by (try simp only [List.getElem_toArray, List.getElem_cons_succ, List.getElem_cons_zero, Act.put, List.setIfInBounds_toArray, List.set_cons_zero, List.set_cons_succ]) <;> rfl) :
    wpAnyH P md ops Q S (fuel + 1) listed a w := by
  subst hl ha
  exact wpAnyH_take hi hs hf hr hQ (.inr ⟨hw, rfl⟩) hS h
end
theorem cells13 {w : World} {g : Nat} {t : TypeId} {a0 a1 a2 a3 a4 a5 a6 a7 a8 a9 a10 a11 a12 : Value} (h : Blk w g t #[a0, a1, a2, a3, a4, a5, a6, a7, a8, a9, a10, a11, a12]) : w.cell? ⟨g, 0, none⟩ = some a0 ∧ w.cell? ⟨g, 1, none⟩ = some a1 ∧ w.cell? ⟨g, 2, none⟩ = some a2 ∧ w.cell? ⟨g, 3, none⟩ = some a3 ∧ w.cell? ⟨g, 4, none⟩ = some a4 ∧ w.cell? ⟨g, 5, none⟩ = some a5 ∧ w.cell? ⟨g, 6, none⟩ = some a6 ∧ w.cell? ⟨g, 7, none⟩ = some a7 ∧ w.cell? ⟨g, 8, none⟩ = some a8 ∧ w.cell? ⟨g, 9, none⟩ = some a9 ∧ w.cell? ⟨g, 10, none⟩ = some a10 ∧ w.cell? ⟨g, 11, none⟩ = some a11 ∧ w.cell? ⟨g, 12, none⟩ = some a12 :=
  ⟨h.cell 0, h.cell 1, h.cell 2, h.cell 3, h.cell 4, h.cell 5, h.cell 6, h.cell 7, h.cell 8, h.cell 9, h.cell 10, h.cell 11, h.cell 12⟩
theorem hon {w w' : World} {g : Nat} {t : TypeId} {cs : Array Value} (h : Hid (Blk w g t cs)) (ho : Only [] w w') : Hid (Blk w' g t cs) := hide (h.out.only ho (by simp))
end
end Go.Proofs.YtfipdjlalfpbnaaGreatDoor

/-
  Walks and plain words for KnowNil (texts Kn12, Kn13, Kn14). No condition beyond those that each theorem states.
-/
import Derived.Test.YtfmfnfmhknlpbaaP05
namespace Go.Proofs.Ytfmfnfmhknlpbaa
section
open Go.RowKit Go.Deep Go.Maps Go.WideMaps

set_option maxRecDepth 100000 in
set_option maxHeartbeats 6400000 in
theorem ready_any (w : World) (k m sb : Nat) (keys : Value) (hk : Blk w k 86 #[.map (some m), .map (some sb), keys]) :
    Calls Try.prog 40 #[.pointer (some ⟨k, 0, none⟩)] w fun e w' => e = .returned (.tuple #[]) ∧ w = w' := by
  have c0 := hk.cell 0
  have c1 := hk.cell 1
  simp at c0 c1
  clear hk
  have q1 : ∀ W : World, (binOp .eql 83 (.map (some m)) (.map none)).run Try.prog W = .ok (.bool false) W := fun W => by kernel_rfl
  have q2 : ∀ W : World, (binOp .eql 84 (.map (some sb)) (.map none)).run Try.prog W = .ok (.bool false) W := fun W => by kernel_rfl
  go_enter Try.func40, Try.ntmps40
  go_wp2_with fail
  refine bodyPost_end (results_none rfl _ _ _) rfl ?_
  exact ⟨rfl, rfl⟩
theorem AddK_nil (w : World) (v : Value) : Calls Try.prog 21 #[.pointer none, v] w fun e w' => e = .returned (.int .i64 1) ∧ w = w' := by
  go_enter Try.func21, Try.ntmps21
  go_wp2
  go_ret
  exact ⟨rfl, rfl⟩
set_option maxRecDepth 100000 in
set_option maxHeartbeats 6400000 in
theorem add_seal (w : World) (k m n sb : Nat) (D : DataW Unit) (g o cap : Nat) (s a p0 p1 p2 : ByteArray) (q : Nat) (hk : Blk w k 86 #[.map (some m), .map (some sb), .slice none 0 0]) (hh : Had m n D w) (hsh : Shut sb 0 (.map []) w) (hkm : k ≠ m) (hks : k ≠ sb) (hms : m ≠ sb) (hn : n ≤ 900)
    (hv : Rd w [] (.slice (some ⟨g, o, none⟩) 2 cap) (strs [s, a])) (hka : kindT a ≠ 0) (hks' : kindT s ≠ 0) (hsa : a.size ≤ maxLen) (hss : s.size ≤ maxLen) (e10a : (kindT a == 10) = false) (e11a : (kindT a == 11) = false) (hha : hadB D a = false) (e10s : (kindT s == 10) = true) (e11s : (kindT s == 11) = false) (hhs : hadB ((D).put (.string a.data.toList) (.lit (.bool true))) s = false)
    (hpt : parT s = [p0, p1, p2]) (hp0 : p0.size ≤ maxLen) (hp1 : p1.size ≤ maxLen) (e10p : (kindT p1 == 10) = false) (e11p : (kindT p1 == 11) = false) (hhp : hadB (((D).put (.string a.data.toList) (.lit (.bool true))).put (.string s.data.toList) (.lit (.bool true))) p1 = false) (hR : ∀ keys, Reads0 k m (n + 1 + 1) sb (((D).put (.string a.data.toList) (.lit (.bool true))).put (.string s.data.toList) (.lit (.bool true))) keys p0 q true) :
    Calls Try.prog 21 #[.pointer (some ⟨k, 0, none⟩), .slice (some ⟨g, o, none⟩) 2 cap] w fun e w' => e = .returned (.int .i64 0) ∧ Blk w' k 86 #[.map (some m), .map (some sb), .slice none 0 0] ∧ Had m (n + 1 + 1 + 1) ((((D).put (.string a.data.toList) (.lit (.bool true))).put (.string s.data.toList) (.lit (.bool true))).put (.string p1.data.toList) (.lit (.bool true))) w' ∧ Shut sb 1 (.map []) w' ∧ Only [k, m, sb] w w' := by
  have HKD := hide (fun W q h => Kind_any W q h)
  unfold KindPost at HKD
  have HK := hide hk; have HH := hide hh; have HS := hide hsh; have HRD := hide hv; have HW := hide (Only.refl [k, m, sb] w)
  have HRY := hide (fun W keys (h : Blk W k 86 #[.map (some m), .map (some sb), keys]) => ready_any W k m sb keys h)
  have HVE := hide (fun W h1 h2 h3 h4 => have_seal W k m n sb D g o cap s a p0 p1 p2 h1 h2 h3 hkm hks hms (by omega) h4 hsa hss e10a e11a hha e10s e11s hhs hpt hp0 hp1)
  unfold SealPost at HVE
  have HU1 := hide (fun W g1 c1 g2 c2 h1 h2 h3 h4 h5 hR => unseal_one W k m (n + 1 + 1) sb (((D).put (.string a.data.toList) (.lit (.bool true))).put (.string s.data.toList) (.lit (.bool true))) g1 c1 g2 c2 p0 p1 q h1 h2 h3 h4 h5 hkm hks hms (by omega) hR hp0 hp1 e10p e11p hhp)
  have HRR := hide hR
  have HU0 := hide (fun W h1 => unseal_none W k m sb h1)
  have e0s : (kindT s == 0) = false := by rw [beq_eq_false_iff_ne]; exact hks'
  have e0a : (kindT a == 0) = false := by rw [beq_eq_false_iff_ne]; exact hka
  obtain ⟨_, _, hAA, _, _, y0⟩ := HRD.out.at_.2.2.2 0 (.string s) rfl; cases hAA; rw [Nat.add_zero] at y0; obtain ⟨_, _, hAA, _, _, y1⟩ := HRD.out.at_.2.2.2 1 (.string a) rfl; cases hAA
  clear hk hh hsh hv hks' hka hR hhp e10p e11p hha hhs hpt
  go_enter Try.func21, Try.ntmps21
  go_wp2_with fail
  refine wp_loop_rounds 3 ?_
  rw [rounds_succ]
  go_wp2_with (first
    | (go_at_call 39; (with_reducible refine (HKD.out _ s hss).mono ?_); rintro e w1 ⟨rfl, ho⟩; replace HK := hide (HK.out.only ho (by simp)); replace HH := hide (HH.out.only ho (by simp)); replace HS := hide (HS.out.only ho (by simp)); replace HRD := hide (HRD.out.only ho (by simp)); replace HW := hide (HW.out.trans (ho.mono (by simp))); clear ho y0 y1; obtain ⟨_, _, hAA, _, _, y0⟩ := HRD.out.at_.2.2.2 0 (.string s) rfl; cases hAA; rw [Nat.add_zero] at y0; obtain ⟨_, _, hAA, _, _, y1⟩ := HRD.out.at_.2.2.2 1 (.string a) rfl; cases hAA)
    | (go_at_call 39; (with_reducible refine (HKD.out _ a hsa).mono ?_); rintro e w1 ⟨rfl, ho⟩; replace HK := hide (HK.out.only ho (by simp)); replace HH := hide (HH.out.only ho (by simp)); replace HS := hide (HS.out.only ho (by simp)); replace HRD := hide (HRD.out.only ho (by simp)); replace HW := hide (HW.out.trans (ho.mono (by simp))); clear ho y0 y1; obtain ⟨_, _, hAA, _, _, y0⟩ := HRD.out.at_.2.2.2 0 (.string s) rfl; cases hAA; rw [Nat.add_zero] at y0; obtain ⟨_, _, hAA, _, _, y1⟩ := HRD.out.at_.2.2.2 1 (.string a) rfl; cases hAA))
  rw [rounds_succ]
  go_wp2_with (first
    | (go_at_call 39; (with_reducible refine (HKD.out _ s hss).mono ?_); rintro e w1 ⟨rfl, ho⟩; replace HK := hide (HK.out.only ho (by simp)); replace HH := hide (HH.out.only ho (by simp)); replace HS := hide (HS.out.only ho (by simp)); replace HRD := hide (HRD.out.only ho (by simp)); replace HW := hide (HW.out.trans (ho.mono (by simp))); clear ho y0 y1; obtain ⟨_, _, hAA, _, _, y0⟩ := HRD.out.at_.2.2.2 0 (.string s) rfl; cases hAA; rw [Nat.add_zero] at y0; obtain ⟨_, _, hAA, _, _, y1⟩ := HRD.out.at_.2.2.2 1 (.string a) rfl; cases hAA)
    | (go_at_call 39; (with_reducible refine (HKD.out _ a hsa).mono ?_); rintro e w1 ⟨rfl, ho⟩; replace HK := hide (HK.out.only ho (by simp)); replace HH := hide (HH.out.only ho (by simp)); replace HS := hide (HS.out.only ho (by simp)); replace HRD := hide (HRD.out.only ho (by simp)); replace HW := hide (HW.out.trans (ho.mono (by simp))); clear ho y0 y1; obtain ⟨_, _, hAA, _, _, y0⟩ := HRD.out.at_.2.2.2 0 (.string s) rfl; cases hAA; rw [Nat.add_zero] at y0; obtain ⟨_, _, hAA, _, _, y1⟩ := HRD.out.at_.2.2.2 1 (.string a) rfl; cases hAA))
  rw [rounds_succ]
  go_wp2_with (first
    | (go_at_call 40; refine (HRY.out _ _ HK.out).mono ?_; rintro e w2 ⟨rfl, rfl⟩)
    | (go_at_call 41; refine (HVE.out _ HK.out HH.out HS.out HRD.out).mono ?_; rintro e w3 ⟨rfl, g1, c1, g2, c2, hk3, hh3, hs3, hr3, hi3, ho3⟩; replace HK := hide hk3; replace HH := hide hh3; replace HS := hide hs3; have HRK := hide hr3; have HRI := hide hi3; replace HW := hide (HW.out.trans ho3); clear hk3 hh3 hs3 hr3 hi3 ho3 y0 y1))
  refine wp_loop_rounds 2 ?_
  rw [rounds_succ]
  go_wp2_with (go_at_call 42; refine (HU1.out _ g1 c1 g2 c2 HK.out HH.out HS.out HRK.out HRI.out (HRR.out _)).mono ?_; rintro e w4 ⟨rfl, hk4, hh4, hs4, ho4⟩; replace HK := hide hk4; replace HH := hide hh4; replace HS := hide hs4; replace HW := hide (HW.out.trans ho4); clear hk4 hh4 hs4 ho4)
  rw [rounds_succ]
  go_wp2_with (go_at_call 42; refine (HU0.out _ HK.out).mono ?_; rintro e w5 ⟨rfl, hk5, ho5⟩; replace HK := hide hk5; replace HH := hide (HH.out.only ho5 (by simp; omega)); replace HS := hide (HS.out.only ho5 (by simp; omega)); replace HW := hide (HW.out.trans (ho5.mono (by simp))); clear hk5 ho5)
  go_ret
  exact ⟨rfl, HK.out, HH.out, HS.out, HW.out⟩
set_option maxRecDepth 100000 in
set_option maxHeartbeats 6400000 in
theorem add_two (w : World) (k m n sb : Nat) (D : DataW Unit) (g o cap : Nat) (x y : ByteArray) (hk : Blk w k 86 #[.map (some m), .map (some sb), .slice none 0 0]) (hh : Had m n D w) (hsh : Shut sb 0 (.map []) w) (hkm : k ≠ m) (hks : k ≠ sb) (hms : m ≠ sb) (hn : n ≤ 900)
    (hv : Rd w [] (.slice (some ⟨g, o, none⟩) 2 cap) (strs [x, y])) (hkx : kindT x ≠ 0) (hky : kindT y ≠ 0) (hsx : x.size ≤ maxLen) (e10x : (kindT x == 10) = false) (e11x : (kindT x == 11) = false) (hhx : hadB (D.put (.string y.data.toList) (.lit (.bool true))) x = false) (hsy : y.size ≤ maxLen) (e10y : (kindT y == 10) = false) (e11y : (kindT y == 11) = false) (hhy : hadB D y = false) :
    Calls Try.prog 21 #[.pointer (some ⟨k, 0, none⟩), .slice (some ⟨g, o, none⟩) 2 cap] w fun e w' => e = .returned (.int .i64 0) ∧ Blk w' k 86 #[.map (some m), .map (some sb), .slice none 0 0] ∧ Had m (n + 1 + 1) ((D.put (.string y.data.toList) (.lit (.bool true))).put (.string x.data.toList) (.lit (.bool true))) w' ∧ Shut sb 0 (.map []) w' ∧ Only [k, m, sb] w w' := by
  have HKD := hide (fun W q h => Kind_any W q h)
  unfold KindPost at HKD
  have HK := hide hk; have HH := hide hh; have HS := hide hsh; have HRD := hide hv; have HW := hide (Only.refl [k, m, sb] w)
  have HRY := hide (fun W keys (h : Blk W k 86 #[.map (some m), .map (some sb), keys]) => ready_any W k m sb keys h)
  have HVE := hide (fun W h1 h2 h3 h4 => have_two W k m n sb 0 D (.map []) (.slice none 0 0) g o cap x y h1 h2 h3 hkm hks hms (by omega) h4 hsx e10x e11x hhx hsy e10y e11y hhy)
  have HU0 := hide (fun W h1 => unseal_none W k m sb h1)
  have e0x : (kindT x == 0) = false := by rw [beq_eq_false_iff_ne]; exact hkx
  have e0y : (kindT y == 0) = false := by rw [beq_eq_false_iff_ne]; exact hky
  obtain ⟨_, _, hAA, _, _, y0⟩ := HRD.out.at_.2.2.2 0 (.string x) rfl; cases hAA; rw [Nat.add_zero] at y0; obtain ⟨_, _, hAA, _, _, y1⟩ := HRD.out.at_.2.2.2 1 (.string y) rfl; cases hAA
  clear hk hh hsh hv hkx hky hhx hhy
  go_enter Try.func21, Try.ntmps21
  go_wp2_with fail
  refine wp_loop_rounds 3 ?_
  rw [rounds_succ]
  go_wp2_with (first
    | (go_at_call 39; (with_reducible refine (HKD.out _ x hsx).mono ?_); rintro e w1 ⟨rfl, ho⟩; replace HK := hide (HK.out.only ho (by simp)); replace HH := hide (HH.out.only ho (by simp)); replace HS := hide (HS.out.only ho (by simp)); replace HRD := hide (HRD.out.only ho (by simp)); replace HW := hide (HW.out.trans (ho.mono (by simp))); clear ho y0 y1; obtain ⟨_, _, hAA, _, _, y0⟩ := HRD.out.at_.2.2.2 0 (.string x) rfl; cases hAA; rw [Nat.add_zero] at y0; obtain ⟨_, _, hAA, _, _, y1⟩ := HRD.out.at_.2.2.2 1 (.string y) rfl; cases hAA)
    | (go_at_call 39; (with_reducible refine (HKD.out _ y hsy).mono ?_); rintro e w1 ⟨rfl, ho⟩; replace HK := hide (HK.out.only ho (by simp)); replace HH := hide (HH.out.only ho (by simp)); replace HS := hide (HS.out.only ho (by simp)); replace HRD := hide (HRD.out.only ho (by simp)); replace HW := hide (HW.out.trans (ho.mono (by simp))); clear ho y0 y1; obtain ⟨_, _, hAA, _, _, y0⟩ := HRD.out.at_.2.2.2 0 (.string x) rfl; cases hAA; rw [Nat.add_zero] at y0; obtain ⟨_, _, hAA, _, _, y1⟩ := HRD.out.at_.2.2.2 1 (.string y) rfl; cases hAA))
  rw [rounds_succ]
  go_wp2_with (first
    | (go_at_call 39; (with_reducible refine (HKD.out _ x hsx).mono ?_); rintro e w1 ⟨rfl, ho⟩; replace HK := hide (HK.out.only ho (by simp)); replace HH := hide (HH.out.only ho (by simp)); replace HS := hide (HS.out.only ho (by simp)); replace HRD := hide (HRD.out.only ho (by simp)); replace HW := hide (HW.out.trans (ho.mono (by simp))); clear ho y0 y1; obtain ⟨_, _, hAA, _, _, y0⟩ := HRD.out.at_.2.2.2 0 (.string x) rfl; cases hAA; rw [Nat.add_zero] at y0; obtain ⟨_, _, hAA, _, _, y1⟩ := HRD.out.at_.2.2.2 1 (.string y) rfl; cases hAA)
    | (go_at_call 39; (with_reducible refine (HKD.out _ y hsy).mono ?_); rintro e w1 ⟨rfl, ho⟩; replace HK := hide (HK.out.only ho (by simp)); replace HH := hide (HH.out.only ho (by simp)); replace HS := hide (HS.out.only ho (by simp)); replace HRD := hide (HRD.out.only ho (by simp)); replace HW := hide (HW.out.trans (ho.mono (by simp))); clear ho y0 y1; obtain ⟨_, _, hAA, _, _, y0⟩ := HRD.out.at_.2.2.2 0 (.string x) rfl; cases hAA; rw [Nat.add_zero] at y0; obtain ⟨_, _, hAA, _, _, y1⟩ := HRD.out.at_.2.2.2 1 (.string y) rfl; cases hAA))
  rw [rounds_succ]
  go_wp2_with (first
    | (go_at_call 40; refine (HRY.out _ _ HK.out).mono ?_; rintro e w2 ⟨rfl, rfl⟩)
    | (go_at_call 41; refine (HVE.out _ HK.out HH.out HS.out HRD.out).mono ?_; rintro e w3 ⟨rfl, hk3, hh3, hs3, ho3⟩; replace HK := hide hk3; replace HH := hide hh3; replace HS := hide hs3; replace HW := hide (HW.out.trans (ho3.mono (by simp))); clear hk3 hh3 hs3 ho3 y0 y1))
  refine wp_loop_rounds 1 ?_
  rw [rounds_succ]
  go_wp2_with (go_at_call 42; refine (HU0.out _ HK.out).mono ?_; rintro e w5 ⟨rfl, hk5, ho5⟩; replace HK := hide hk5; replace HH := hide (HH.out.only ho5 (by simp; omega)); replace HS := hide (HS.out.only ho5 (by simp; omega)); replace HW := hide (HW.out.trans (ho5.mono (by simp))); clear hk5 ho5)
  go_ret
  exact ⟨rfl, HK.out, HH.out, HS.out, HW.out⟩
end
section
open Go.RowKit Go.Deep Go.Maps Go.WideMaps

def NewPost3 (w : World) (e : Ending) (w' : World) : Prop := ∃ k m sb, e = .returned (.pointer (some ⟨k, 0, none⟩)) ∧ KnowIs k m 0 sb (.map []) (.slice none 0 0) w' ∧ Shut sb 0 (.map []) w' ∧ (k ≠ m ∧ k ≠ sb ∧ m ≠ sb) ∧ (w.heap.size ≤ k ∧ w.heap.size ≤ m ∧ w.heap.size ≤ sb) ∧ Only [] w w'
theorem newK3 (w : World) : Calls Try.prog 26 #[] w (NewPost3 w) :=
  (newK_any w).mono fun _ _ h => ⟨_, _, _, h.1, h.2.1, h.2.2.1, by omega, by omega, h.2.2.2⟩
def DA : DataW Unit := (((((.map [] : DataW Unit)).put (.string (⟨#[97, 49]⟩ : ByteArray).data.toList) (.lit (.bool true))).put (.string (⟨#[115, 40, 49, 44, 107, 40, 49, 44, 97, 49, 44, 48, 41, 44, 97, 50, 44, 48, 41]⟩ : ByteArray).data.toList) (.lit (.bool true))).put (.string (⟨#[97, 50]⟩ : ByteArray).data.toList) (.lit (.bool true)))
def DB : DataW Unit := ((((.map [] : DataW Unit)).put (.string (⟨#[97, 50]⟩ : ByteArray).data.toList) (.lit (.bool true))).put (.string (⟨#[112, 40, 97, 49, 41]⟩ : ByteArray).data.toList) (.lit (.bool true)))
theorem had_s0 : hadB ((.map [] : DataW Unit)) (⟨#[97, 49]⟩ : ByteArray) = false := by kernel_rfl
theorem had_s1 : hadB (((.map [] : DataW Unit)).put (.string (⟨#[97, 49]⟩ : ByteArray).data.toList) (.lit (.bool true))) (⟨#[115, 40, 49, 44, 107, 40, 49, 44, 97, 49, 44, 48, 41, 44, 97, 50, 44, 48, 41]⟩ : ByteArray) = false := by kernel_rfl
theorem had_s2 : hadB ((((.map [] : DataW Unit)).put (.string (⟨#[97, 49]⟩ : ByteArray).data.toList) (.lit (.bool true))).put (.string (⟨#[115, 40, 49, 44, 107, 40, 49, 44, 97, 49, 44, 48, 41, 44, 97, 50, 44, 48, 41]⟩ : ByteArray).data.toList) (.lit (.bool true))) (⟨#[97, 50]⟩ : ByteArray) = false := by kernel_rfl
theorem had_s3 : hadB ((((.map [] : DataW Unit)).put (.string (⟨#[97, 49]⟩ : ByteArray).data.toList) (.lit (.bool true))).put (.string (⟨#[115, 40, 49, 44, 107, 40, 49, 44, 97, 49, 44, 48, 41, 44, 97, 50, 44, 48, 41]⟩ : ByteArray).data.toList) (.lit (.bool true))) (⟨#[97, 49]⟩ : ByteArray) = true := by kernel_rfl
theorem had_a2 : hadB DA (ByteArray.extract (⟨#[97, 50]⟩ : ByteArray) 0 (send (⟨#[97, 50]⟩ : ByteArray) 1)) = true := by kernel_rfl
theorem had_t1 : hadB (((.map [] : DataW Unit)).put (.string (⟨#[97, 50]⟩ : ByteArray).data.toList) (.lit (.bool true))) (⟨#[112, 40, 97, 49, 41]⟩ : ByteArray) = false := by kernel_rfl
theorem had_t0 : hadB ((.map [] : DataW Unit)) (⟨#[97, 50]⟩ : ByteArray) = false := by kernel_rfl
theorem had_b1 : hadB DB (⟨#[97, 49]⟩ : ByteArray) = false := by kernel_rfl
theorem had_b2 : hadB DB (⟨#[97, 50]⟩ : ByteArray) = true := by kernel_rfl
theorem had_b3 : hadB DB (⟨#[100, 40, 97, 49, 44, 97, 50, 41]⟩ : ByteArray) = false := by kernel_rfl
theorem had_b4 : hadB DB (⟨#[112, 40, 97, 49, 41]⟩ : ByteArray) = true := by kernel_rfl
theorem had_b5 : hadB DB (ByteArray.extract (⟨#[97, 49]⟩ : ByteArray) 0 (send (⟨#[97, 49]⟩ : ByteArray) 1)) = false := by kernel_rfl
theorem part_s : parT (⟨#[115, 40, 49, 44, 107, 40, 49, 44, 97, 49, 44, 48, 41, 44, 97, 50, 44, 48, 41]⟩ : ByteArray) = [(⟨#[107, 40, 49, 44, 97, 49, 44, 48, 41]⟩ : ByteArray), (⟨#[97, 50]⟩ : ByteArray), (⟨#[48]⟩ : ByteArray)] := by kernel_rfl
theorem kd_s : kindT (⟨#[115, 40, 49, 44, 107, 40, 49, 44, 97, 49, 44, 48, 41, 44, 97, 50, 44, 48, 41]⟩ : ByteArray) = 10 := by kernel_rfl
theorem kd_a1 : kindT (⟨#[97, 49]⟩ : ByteArray) = 2 := by kernel_rfl
theorem kd_a2 : kindT (⟨#[97, 50]⟩ : ByteArray) = 2 := by kernel_rfl
theorem kd_pa : kindT (⟨#[112, 40, 97, 49, 41]⟩ : ByteArray) = 5 := by kernel_rfl
theorem kd_td : kindT (⟨#[100, 40, 97, 49, 44, 97, 50, 41]⟩ : ByteArray) = 6 := by kernel_rfl
theorem add_seal_new (w : World) (G : Nat) (hG : G = w.heap.size) (k m sb : Nat) (hk : KnowIs k m 0 sb (.map []) (.slice none 0 0) w) (hs : Shut sb 0 (.map []) w) (hn : k ≠ m ∧ k ≠ sb ∧ m ≠ sb) :
    Calls Try.prog 21 #[.pointer (some ⟨k, 0, none⟩), .slice (some ⟨G, 0, none⟩) 2 2] (w.alloc (.cells #[.string (⟨#[115, 40, 49, 44, 107, 40, 49, 44, 97, 49, 44, 48, 41, 44, 97, 50, 44, 48, 41]⟩ : ByteArray), .string (⟨#[97, 49]⟩ : ByteArray)] 9)) fun e w' => e = .returned (.int .i64 0) ∧ KnowIs k m 3 sb DA (.slice none 0 0) w' ∧ Only [k, m, sb] w w' := by
  subst hG
  have ho : Only [] w (w.alloc (.cells #[.string (⟨#[115, 40, 49, 44, 107, 40, 49, 44, 97, 49, 44, 48, 41, 44, 97, 50, 44, 48, 41]⟩ : ByteArray), .string (⟨#[97, 49]⟩ : ByteArray)] 9)) := (Only.refl [] w).alloc _
  have hk2 := hk.only ho (by simp) (by simp)
  refine (add_seal _ k m 0 sb (.map []) w.heap.size 0 2 (⟨#[115, 40, 49, 44, 107, 40, 49, 44, 97, 49, 44, 48, 41, 44, 97, 50, 44, 48, 41]⟩ : ByteArray) (⟨#[97, 49]⟩ : ByteArray) (⟨#[107, 40, 49, 44, 97, 49, 44, 48, 41]⟩ : ByteArray) (⟨#[97, 50]⟩ : ByteArray) (⟨#[48]⟩ : ByteArray) 9 hk2.1 hk2.2 (hs.only ho (by simp)) hn.1 hn.2.1 hn.2.2 (by omega) (rd_new w 9 [] (strs [(⟨#[115, 40, 49, 44, 107, 40, 49, 44, 97, 49, 44, 48, 41, 44, 97, 50, 44, 48, 41]⟩ : ByteArray), (⟨#[97, 49]⟩ : ByteArray)]) (by simp) (by unfold maxLen; show 2 ≤ _; omega)) (by rw [kd_a1]; decide) (by rw [kd_s]; decide) (by unfold maxLen; show 2 ≤ _; omega) (by unfold maxLen; show 19 ≤ _; omega) (by rw [kd_a1]; rfl) (by rw [kd_a1]; rfl) had_s0 (by rw [kd_s]; rfl) (by rw [kd_s]; rfl) had_s1 part_s (by unfold maxLen; show 9 ≤ _; omega) (by unfold maxLen; show 2 ≤ _; omega) (by rw [kd_a2]; rfl) (by rw [kd_a2]; rfl) had_s2 (fun keys W g hb hkk h1 h2 => read_k W g k m _ sb _ keys hb hkk h1 h2 had_s3)).mono ?_
  rintro e w' ⟨h1, h2, h3, _, h5⟩
  exact ⟨h1, ⟨h2, h3⟩, (ho.mono (by simp)).trans h5⟩
theorem add_two_new (w : World) (G : Nat) (hG : G = w.heap.size) (k m sb : Nat) (hk : KnowIs k m 0 sb (.map []) (.slice none 0 0) w) (hs : Shut sb 0 (.map []) w) (hn : k ≠ m ∧ k ≠ sb ∧ m ≠ sb) :
    Calls Try.prog 21 #[.pointer (some ⟨k, 0, none⟩), .slice (some ⟨G, 0, none⟩) 2 2] (w.alloc (.cells #[.string (⟨#[112, 40, 97, 49, 41]⟩ : ByteArray), .string (⟨#[97, 50]⟩ : ByteArray)] 9)) fun e w' => e = .returned (.int .i64 0) ∧ KnowIs k m 2 sb DB (.slice none 0 0) w' ∧ Only [k, m, sb] w w' := by
  subst hG
  have ho : Only [] w (w.alloc (.cells #[.string (⟨#[112, 40, 97, 49, 41]⟩ : ByteArray), .string (⟨#[97, 50]⟩ : ByteArray)] 9)) := (Only.refl [] w).alloc _
  have hk2 := hk.only ho (by simp) (by simp)
  refine (add_two _ k m 0 sb (.map []) w.heap.size 0 2 (⟨#[112, 40, 97, 49, 41]⟩ : ByteArray) (⟨#[97, 50]⟩ : ByteArray) hk2.1 hk2.2 (hs.only ho (by simp)) hn.1 hn.2.1 hn.2.2 (by omega) (rd_new w 9 [] (strs [(⟨#[112, 40, 97, 49, 41]⟩ : ByteArray), (⟨#[97, 50]⟩ : ByteArray)]) (by simp) (by unfold maxLen; show 2 ≤ _; omega)) (by rw [kd_pa]; decide) (by rw [kd_a2]; decide) (by unfold maxLen; show 5 ≤ _; omega) (by rw [kd_pa]; rfl) (by rw [kd_pa]; rfl) had_t1 (by unfold maxLen; show 2 ≤ _; omega) (by rw [kd_a2]; rfl) (by rw [kd_a2]; rfl) had_t0).mono ?_
  rintro e w' ⟨h1, h2, h3, _, h5⟩
  exact ⟨h1, ⟨h2, h3⟩, (ho.mono (by simp)).trans h5⟩
theorem can_a2 (w : World) (k m sb : Nat) (hk : KnowIs k m 3 sb DA (.slice none 0 0) w) : Calls Try.prog 22 #[.pointer (some ⟨k, 0, none⟩), .string (⟨#[97, 50]⟩ : ByteArray)] w (RetB true w) := by
  have h := CanK_atom w k m 3 sb DA (.slice none 0 0) (⟨#[97, 50]⟩ : ByteArray) hk (by decide) (by unfold maxLen; show 2 ≤ _; omega) (by decide) (by rw [kd_a2]; decide)
  rw [had_a2] at h
  exact h
theorem can_d (w : World) (k m sb : Nat) (hk : KnowIs k m 2 sb DB (.slice none 0 0) w) : Calls Try.prog 22 #[.pointer (some ⟨k, 0, none⟩), .string (⟨#[100, 40, 97, 49, 44, 97, 50, 41]⟩ : ByteArray)] w (RetB true w) :=
  CanK_of w k m 2 sb DB (.slice none 0 0) (⟨#[100, 40, 97, 49, 44, 97, 50, 41]⟩ : ByteArray) 8 true hk (fun W g hb hkk h1 h2 => read_d W g k m 2 sb DB _ hb hkk h1 h2 had_b1 had_b2 had_b3 had_b4) (by unfold maxLen; show 8 ≤ _; omega) (by rw [kd_td]; decide)
theorem can_a1 (w : World) (k m sb : Nat) (hk : KnowIs k m 2 sb DB (.slice none 0 0) w) : Calls Try.prog 22 #[.pointer (some ⟨k, 0, none⟩), .string (⟨#[97, 49]⟩ : ByteArray)] w (RetB false w) := by
  have h := CanK_atom w k m 2 sb DB (.slice none 0 0) (⟨#[97, 49]⟩ : ByteArray) hk (by decide) (by unfold maxLen; show 2 ≤ _; omega) (by decide) (by rw [kd_a1]; decide)
  rw [had_b5] at h
  exact h
set_option maxRecDepth 100000 in
set_option maxHeartbeats 6400000 in
theorem awake03 (w : World) : Calls Try.prog 20 #[] w (RetB true w) := by
  have HN := hide (newK3 w)
  have HN2 := hide (fun W => newK3 W)
  unfold NewPost3 at HN HN2
  go_enter Try.func20, Try.ntmps20
  go_wp2_with (first
    | (go_at_call 26; (with_reducible refine HN.out.mono ?_); rintro e w1 ⟨k, m, sb, rfl, hk, hs, hn, hg, ho⟩; have HK := hide hk; have HS := hide hs; have HNE := hide hn; have HGE := hide hg; have HO := hide ho; clear hk hs hn hg ho HN)
    | (go_at_call 21; (with_reducible refine (add_seal_new _ _ rfl k m sb HK.out HS.out HNE.out).mono ?_); rintro e w2 ⟨rfl, hk, ho⟩; replace HK := hide hk; replace HO := hide (((HO.out.mono (S' := [k, m, sb]) (by simp)).trans ho).mono (S' := []) (by have := HGE.out; rintro x hx; right; simp at hx; omega)); have HLT := hide (show k < w2.heap.size ∧ m < w2.heap.size ∧ w.heap.size ≤ w2.heap.size from ⟨hk.1.lt, World.ownsMap.lt hk.2, HO.out.size⟩); clear hk ho HS HNE HGE)
    | (go_at_call 26; (with_reducible refine (HN2.out _).mono ?_); rintro e w3 ⟨j, mj, sj, rfl, hk, hs, hn, hg, ho⟩; have HJ := hide hk; have HS := hide hs; have HNE := hide hn; have HGE := hide hg; replace HK := hide (HK.out.only ho (by simp) (by simp)); replace HO := hide (HO.out.trans ho); clear hk hs hn hg ho HN2)
    | (go_at_call 21; (with_reducible refine (add_two_new _ _ rfl j mj sj HJ.out HS.out HNE.out).mono ?_); rintro e w4 ⟨rfl, hk, ho⟩; replace HJ := hide hk; replace HK := hide (HK.out.only ho (by have := HGE.out; have := HLT.out; simp; omega) (by have := HGE.out; have := HLT.out; simp; omega)); replace HO := hide (((HO.out.mono (S' := [j, mj, sj]) (by simp)).trans ho).mono (S' := []) (by have := HGE.out; have := HLT.out; rintro x hx; right; simp at hx; omega)); clear hk ho HS HNE HGE HLT)
    | (go_at_call 22; (with_reducible refine (can_a2 _ k m sb HK.out).mono ?_); rintro e w5 ⟨rfl, ho⟩; replace HJ := hide (HJ.out.only ho (by simp) (by simp)); replace HO := hide (HO.out.trans ho); clear ho HK)
    | (go_at_call 22; (with_reducible refine (can_d _ j mj sj HJ.out).mono ?_); rintro e w6 ⟨rfl, ho⟩; replace HJ := hide (HJ.out.only ho (by simp) (by simp)); replace HO := hide (HO.out.trans ho); clear ho)
    | (go_at_call 22; (with_reducible refine (can_a1 _ j mj sj HJ.out).mono ?_); rintro e w7 ⟨rfl, ho⟩; replace HO := hide (HO.out.trans ho); clear ho))
  go_ret
  exact retb rfl HO.out
end
section
open Go.RowKit Go.Deep Go.Maps Go.WideMaps

theorem has_nil (w : World) (s : ByteArray) : Calls Try.prog 23 #[.pointer none, .string s] w fun e w' => e = .returned (.bool false) ∧ w = w' := by
  go_enter Try.func23, Try.ntmps23
  go_wp2_with fail
  go_ret
  exact ⟨rfl, rfl⟩
theorem lenk_nil (w : World) : Calls Try.prog 24 #[.pointer none] w fun e w' => e = .returned (.int .i64 0) ∧ w = w' := by
  go_enter Try.func24, Try.ntmps24
  go_wp2_with fail
  go_ret
  exact ⟨rfl, rfl⟩
theorem atoms_nil (w : World) : Calls Try.prog 25 #[.pointer none] w fun e w' => e = .returned (.slice none 0 0) ∧ w = w' := by
  go_enter Try.func25, Try.ntmps25
  go_wp2_with fail
  go_ret
  exact ⟨rfl, rfl⟩
theorem had_none (s : ByteArray) : hadB (.map []) s = false := rfl
theorem has_new (w : World) (k m sb : Nat) (s : ByteArray) (hs : s.size ≤ maxLen) (hk : KnowIs k m 0 sb (.map []) (.slice none 0 0) w) : Calls Try.prog 23 #[.pointer (some ⟨k, 0, none⟩), .string s] w fun e w' => e = .returned (.bool false) ∧ w = w' := by
  have hl := hk.2.run s hs
  rw [had_none] at hl
  have c0 := hk.1.cell 0
  simp at c0
  clear hk hs
  go_enter Try.func23, Try.ntmps23
  go_wp2_with fail
  go_ret
  exact ⟨rfl, rfl⟩
set_option maxRecDepth 100000 in
set_option maxHeartbeats 6400000 in
theorem kn_long (w : World) (s : ByteArray) (hl : 400 < s.size) :
    Calls Try.prog 5 #[.string s] w (RetB true w) := by
  have HAW := hide (awake03 w)
  unfold RetB at HAW
  have h1 : (400 : Int) < s.size := by omega
  clear hl
  go_enter Try.func5, Try.ntmps5
  go_wp2_with (go_at_call 20; refine HAW.out.mono ?_; rintro e w1 ⟨rfl, ho⟩; have HO := hide ho; clear ho)
  go_ret
  exact retb rfl HO.out
set_option maxRecDepth 100000 in
set_option maxHeartbeats 6400000 in
theorem kn_walk (w : World) (s : ByteArray) (hl : s.size ≤ 400) :
    Calls Try.prog 5 #[.string s] w (RetB true w) := by
  have HAW := hide (awake03 w)
  have HN2 := hide (fun W => newK3 W)
  unfold NewPost3 at HN2
  unfold RetB at HAW
  have h1 : ¬ (400 : Int) < s.size := by omega
  have HSM := hide (show s.size ≤ maxLen by unfold maxLen; omega)
  clear hl
  go_enter Try.func5, Try.ntmps5
  go_wp2_with (first
    | (go_at_call 20; refine HAW.out.mono ?_; rintro e w1 ⟨rfl, ho⟩; have HO := hide ho; clear ho)
    | (go_at_call 21; (with_reducible refine (AddK_nil _ _).mono ?_); rintro e wz ⟨rfl, rfl⟩; replace HO := hide (HO.out.alloc (.cells #[.string s] 9)))
    | (go_at_call 22; (with_reducible refine (CanK_nil _ _).mono ?_); rintro e wz ⟨rfl, ho⟩; replace HO := hide (HO.out.trans ho); clear ho)
    | (go_at_call 23; (with_reducible refine (has_nil _ _).mono ?_); rintro e wz ⟨rfl, rfl⟩)
    | (go_at_call 24; (with_reducible refine (lenk_nil _).mono ?_); rintro e wz ⟨rfl, rfl⟩)
    | (go_at_call 25; (with_reducible refine (atoms_nil _).mono ?_); rintro e wz ⟨rfl, rfl⟩)
    | (go_at_call 26; refine (HN2.out _).mono ?_; rintro e w3 ⟨j, mj, sj, rfl, hk, _, _, _, ho⟩; have HJ := hide hk; replace HO := hide (HO.out.trans ho); clear hk ho)
    | (go_at_call 23; (with_reducible refine (has_new _ j mj sj s HSM.out HJ.out).mono ?_); rintro e wz ⟨rfl, rfl⟩))
  go_ret
  exact retb rfl HO.out
theorem kn_law (s : ByteArray) (_hs : s.size ≤ maxLen) {w : World} :
    Calls Try.prog 5 #[.string s] w fun e w' => e = .returned (.bool true) ∧ Only [] w w' := by
  rcases Nat.lt_or_ge 400 s.size with h | h
  · exact kn_long w s h
  · exact kn_walk w s h
end
end Go.Proofs.Ytfmfnfmhknlpbaa

/-
  addr.PrintPrefix and the law's example: by walking. Condition: the library's table of powers of ten reads as it was laid.
-/
import Derived.Test.YtjkgmkkhjpcngaaDoorAp1
namespace Go.Proofs.YtjkgmkkhjpcngaaDoor
open Go.RowKit Go.Deep

theorem ba_append (a b : List UInt8) : (⟨a.toArray⟩ : ByteArray) ++ ⟨b.toArray⟩ = ⟨(a ++ b).toArray⟩ := by
  apply ByteArray.ext
  rw [ByteArray.data_append]
  simp
theorem cat_three (a b : List UInt8) : (⟨a.toArray⟩ : ByteArray) ++ ⟨#[47]⟩ ++ ⟨b.toArray⟩ = ⟨(a ++ 47 :: b).toArray⟩ := by
  rw [show (⟨#[47]⟩ : ByteArray) = ⟨[47].toArray⟩ from rfl, ba_append, ba_append]
  simp

set_option maxHeartbeats 3200000 in
theorem pp_no (v : Value) (l : List UInt8) (b : Int) (N : List Nat) (w : World) (hv : Rd w N v (ints .u8 (byts l))) (hp : isPlain l b = false) :
    Calls Tryd.prog 41 #[.agg #[v, .int .i64 b]] w fun e w' => e = .returned (.tuple #[.string ⟨#[]⟩, .int .i64 3]) ∧ Only [] w w' := by
  have HO := hide ((Only.refl [] w).alloc (.cells #[v, .int .i64 b] 36))
  have HV := hide ((hv.less (N' := []) (fun x hx => by cases hx)).only HO.out (by simp))
  have HP := hide hp
  obtain ⟨A, cap, rfl, hcp, hcm⟩ := hv.formb
  clear hv hp
  go_enter Tryd.func41, Tryd.ntmps41
  go_wp2_with (go_at_call 52; refine (plain_any _ l b _ _ HV.out).mono ?_; rw [HP.out]; rintro e w1 ⟨rfl, ho⟩; have HC := hide (HO.out.trans ho); clear ho)
  go_ret2
  exact ⟨rfl, HC.out⟩

set_option maxRecDepth 100000 in
set_option maxHeartbeats 3200000 in
theorem pp_four (v : Value) (l : List UInt8) (b : Nat) (N : List Nat) (w : World) (hv : Rd w N v (ints .u8 (byts l))) (hp : isPlain l b = true) (h4 : l.length = 4) (htab : Tab w) :
    Calls Tryd.prog 41 #[.agg #[v, .int .i64 b]] w (TxtPost (dotV l 4 ++ ([47] ++ Lib.decDigits b)) w) := by
  have HO := hide ((Only.refl [] w).alloc (.cells #[v, .int .i64 b] 36))
  have HV := hide ((hv.less (N' := []) (fun x hx => by cases hx)).only HO.out (by simp))
  have HBX := hide (Blk.new w 36 #[v, .int .i64 b])
  have hb : b ≤ 32 := by
    have := right_nat (l := l) (b := b) (by unfold isPlain at hp; simp only [Bool.and_eq_true] at hp; exact hp.1)
    omega
  have HT := hide htab
  have HP := hide hp
  have H4 := hide h4
  have hd1 := dot_len l 4
  have hd2 := dec_len b (by omega)
  have HB64 := hide (show b < 18446744073709551616 by omega)
  obtain ⟨A, cap, rfl, hcp, hcm⟩ := hv.formb
  rw [h4] at HV HO HBX ⊢
  clear hv hp h4 htab
  obtain ⟨X, hX⟩ : ∃ X : ByteArray, X = ⟨(dotV l 4).toArray⟩ := ⟨_, rfl⟩
  obtain ⟨Y, hY⟩ : ∃ Y : ByteArray, Y = ⟨(Lib.decDigits b).toArray⟩ := ⟨_, rfl⟩
  have hxs : X.size ≤ 84 := by rw [hX]; simpa [ByteArray.size] using hd1
  have hys : Y.size ≤ 20 := by rw [hY]; simpa [ByteArray.size] using hd2
  have HX := hide hX
  have HY := hide hY
  clear hX hY hd1 hd2
  go_enter Tryd.func41, Tryd.ntmps41
  go_wp2_with (first
    | (go_at_call 52; refine (plain_any _ l b _ _ HV.out).mono ?_; rw [HP.out]; rintro e w1 ⟨rfl, ho⟩; have HC := hide (HO.out.trans ho); have HV := hide (HV.out.only ho (by simp)); have HBX := hide (HBX.out.only ho (by simp)); have c0 := HBX.out.cell 0; have c1 := HBX.out.cell 1; simp at c0 c1; clear ho)
    | (go_at_call 53; refine (print_four _ l _ _ HV.out H4.out (HT.out.only HC.out (by simp))).mono ?_; unfold TxtPost; rw [← HX.out]; rintro e w2 ⟨rfl, ho⟩; have HC := hide (HC.out.trans ho); have HBX := hide (HBX.out.only ho (by simp)); have c0 := HBX.out.cell 0; have c1 := HBX.out.cell 1; simp at c0 c1; clear ho)
    | (go_at_call 15; refine (print_any b HB64.out _ (HT.out.only HC.out (by simp))).mono ?_; unfold StrPost; rw [← HY.out]; rintro e w3 ⟨rfl, ho⟩; have HC := hide (HC.out.trans ho); clear ho))
  go_ret2
  refine ⟨congrArg (fun s => Ending.returned (.tuple #[.string s, .int .i64 0])) ?_, HC.out⟩
  rw [HX.out, HY.out]
  exact cat_three _ _

theorem byts_example : byts [10, 0, 0, 7] = [10, 0, 0, 7] := by decide
theorem plain_example : plainV [10, 0, 0, 7] 24 = [10, 0, 0, 0] := by decide +kernel
theorem dot_example : dotV [10, 0, 0, 0] 4 ++ ([47] ++ Lib.decDigits 24) = [49, 48, 46, 48, 46, 48, 46, 48, 47, 50, 52] := by
  have h10 : Lib.decDigits 10 = [49, 48] := by rw [dec_split 10 (by decide), Lib.decDigits, dif_pos (by decide)]; decide
  have h24 : Lib.decDigits 24 = [50, 52] := by rw [dec_split 24 (by decide), Lib.decDigits, dif_pos (by decide)]; decide
  have h0 : Lib.decDigits 0 = [48] := by rw [Lib.decDigits, dif_pos (by decide)]; decide
  have e0 : (([10, 0, 0, 0] : List UInt8).getD 0 0).toNat = 10 := by decide
  have e1 : (([10, 0, 0, 0] : List UInt8).getD 1 0).toNat = 0 := by decide
  have e2 : (([10, 0, 0, 0] : List UInt8).getD 2 0).toNat = 0 := by decide
  have e3 : (([10, 0, 0, 0] : List UInt8).getD 3 0).toNat = 0 := by decide
  simp only [dotV, e0, e1, e2, e3, h10, h24, h0]
  decide

set_option maxRecDepth 100000 in
set_option maxHeartbeats 3200000 in
theorem awake04 (w : World) (htab : Tab w) : Calls Tryd.prog 19 #[] w fun e w' => e = .returned (.bool true) ∧ Only [] w w' := by
  have HR := hide (show Rd (w.alloc (.cells #[.int .u8 10, .int .u8 0, .int .u8 0, .int .u8 7] 5)) [] (.slice (some ⟨w.heap.size, 0, none⟩) 4 4) (ints .u8 (byts [10, 0, 0, 7])) by
    rw [byts_example]
    exact rd_new w 5 [] [.int .u8 10, .int .u8 0, .int .u8 0, .int .u8 7] (fun x hx => by cases hx) (by simp [maxLen]))
  have HC := hide ((Only.refl [] w).alloc (.cells #[.int .u8 10, .int .u8 0, .int .u8 0, .int .u8 7] 5))
  have HT := hide htab
  have HE := hide (show TupPost (plainV [10, 0, 0, 7] (24 : Int).toNat) 24 = TupPost [10, 0, 0, 0] 24 by rw [show (24 : Int).toNat = 24 from rfl, plain_example])
  have HD := hide (show TxtPost (dotV [10, 0, 0, 0] 4 ++ ([47] ++ Lib.decDigits 24)) = TxtPost [49, 48, 46, 48, 46, 48, 46, 48, 47, 50, 52] by rw [dot_example])
  clear htab
  go_enter Tryd.func19, Tryd.ntmps19
  go_wp2_with (first
    | (go_at_call 20; refine (Plain_yes _ [10, 0, 0, 7] 24 _ _ HR.out (by decide)).mono ?_; rw [HE.out]; rintro e w1 ⟨v, rfl, hrd, ho⟩; obtain ⟨A, cap, rfl, _, _⟩ := hrd.formb; have HC := hide ((HC.out.trans ho).alloc (.cells #[.slice A 4 cap, .int .i64 24] 36)); have HR := hide (hrd.only ((Only.refl [] w1).alloc (.cells #[.slice A 4 cap, .int .i64 24] 36)) (by simp)); clear hrd ho)
    | (go_at_call 41; refine (pp_four _ [10, 0, 0, 0] 24 _ _ HR.out (by decide) rfl (HT.out.only HC.out (by simp))).mono ?_; rw [HD.out]; rintro e w2 ⟨rfl, ho⟩; have HC := hide (HC.out.trans ho); clear ho))
  go_ret
  exact ⟨rfl, HC.out⟩
end Go.Proofs.YtjkgmkkhjpcngaaDoor

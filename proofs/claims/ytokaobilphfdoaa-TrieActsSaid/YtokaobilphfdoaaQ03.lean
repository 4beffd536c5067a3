/-
  Walks and plain words (texts Ad0, Same01, Ad4, Tr3, Tr4, Tr5). No condition beyond those that each theorem states.
-/
import Derived.Test.YtokaobilphfdoaaChecked
import Derived.Test.YtokaobilphfdoaaQ02
namespace Go.Proofs.Ytokaobilphfdoaa
section
open Go.RowKit Go.Deep


theorem address_is (A : Option Addr) (n cap : Nat) (r : Bool) (hr : (decide (n = 4) || decide (n = 16)) = r) (w : World) : Calls Try.prog 29 #[.slice A n cap] w fun e w' => e = .returned (.bool r) ∧ w = w' := by
  have h1 : ((n : Int) == 4) = decide (n = 4) := by
    by_cases h : n = 4
    · subst h; rfl
    · rw [decide_eq_false h, beq_eq_false_iff_ne]; omega
  have h2 : ((n : Int) == 16) = decide (n = 16) := by
    by_cases h : n = 16
    · subst h; rfl
    · rw [decide_eq_false h, beq_eq_false_iff_ne]; omega
  by_cases k1 : n = 4
  · have e1 : ((n : Int) == 4) = true := by rw [h1]; exact decide_eq_true k1
    have HB := hide (show r = true by rw [← hr, decide_eq_true k1]; rfl)
    clear h1 h2 k1 hr
    go_enter Try.func29, Try.ntmps29
    go_wp2
    go_ret
    exact ⟨by rw [HB.out]; rfl, rfl⟩
  · have e1 : ((n : Int) == 4) = false := by rw [h1]; exact decide_eq_false k1
    have HB := hide (show decide (n = 16) = r by rw [← hr, decide_eq_false k1]; rfl)
    generalize hb : decide (n = 16) = b at *
    clear h1 k1 hb hr
    go_enter Try.func29, Try.ntmps29
    go_wp2
    go_ret
    exact ⟨by rw [HB.out]; rfl, rfl⟩

def rightN (n : Nat) (b : Int) : Bool := (decide (n = 4) || decide (n = 16)) && decide (0 ≤ b) && decide (b ≤ 8 * (n : Int))
theorem right_any (A : Option Addr) (n cap : Nat) (b : Int) (r : Bool) (hr : rightN n b = r) (w : World) : Calls Try.prog 17 #[.agg #[.slice A n cap, .int .i64 b]] w fun e w' => e = .returned (.bool r) ∧ Only [] w w' := by
  have HO := hide ((Only.refl [] w).alloc (.cells #[.slice A n cap, .int .i64 b] 29))
  by_cases k1 : n = 4 ∨ n = 16
  · have HA := hide (show (decide (n = 4) || decide (n = 16)) = true by rcases k1 with rfl | rfl <;> rfl)
    by_cases k2 : 0 ≤ b
    · have HR := hide (show decide (b ≤ 8 * (n : Int)) = r by rw [← hr]; unfold rightN; rw [HA.out, decide_eq_true k2]; rfl)
      clear hr
      have k4 : 8 * (n : Int) ≤ 128 := by omega
      clear k1
      go_enter Try.func17, Try.ntmps17
      go_wp2_with (go_at_call 29; refine (address_is _ _ _ true HA.out _).mono ?_; rintro e w1 ⟨rfl, rfl⟩)
      go_ret
      exact ⟨by rw [← HR.out]; rfl, HO.out⟩
    · have HR := hide (show false = r by rw [← hr]; unfold rightN; rw [HA.out, decide_eq_false k2]; rfl)
      clear hr k1
      go_enter Try.func17, Try.ntmps17
      go_wp2_with (go_at_call 29; refine (address_is _ _ _ true HA.out _).mono ?_; rintro e w1 ⟨rfl, rfl⟩)
      go_ret
      exact ⟨by rw [HR.out]; rfl, HO.out⟩
  · have HA := hide (show (decide (n = 4) || decide (n = 16)) = false by rw [decide_eq_false (fun h => k1 (.inl h)), decide_eq_false (fun h => k1 (.inr h))]; rfl)
    have HR := hide (show false = r by rw [← hr]; unfold rightN; rw [HA.out]; rfl)
    clear hr k1
    go_enter Try.func17, Try.ntmps17
    go_wp2_with (go_at_call 29; refine (address_is _ _ _ false HA.out _).mono ?_; rintro e w1 ⟨rfl, rfl⟩)
    go_ret
    exact ⟨by rw [HR.out]; rfl, HO.out⟩
end
section
open Go.RowKit Go.Deep

theorem same_bytes (v u : Value) (l m : List UInt8) (N M : List Nat) (w : World) (hx : Rd w N v (ints .u8 (byts l))) (hy : Rd w M u (ints .u8 (byts m))) :
    Calls Try.prog 30 #[v, u] w fun e w' => e = .returned (.bool (decide (l = m))) ∧ w = w' := by
  obtain ⟨A, cap, rfl, hc, hm⟩ := hx.formb
  obtain ⟨A', cap', rfl, hc', hm'⟩ := hy.formb
  have s1 := rd_string (P := Try.prog) hx 23 9 5 Try.underlying23 Try.underlying5 Try.underlying9
  have s2 := rd_string (P := Try.prog) hy 23 9 5 Try.underlying23 Try.underlying5 Try.underlying9
  have e : (l == m) = decide (l = m) := by
    by_cases h : l = m
    · simp [h]
    · simp [h]
  have E := hide e
  clear hx hy e
  go_enter Try.func30, Try.ntmps30
  go_wp2_with fail
  go_ret
  refine ⟨?_, rfl⟩
  rw [← E.out]
  rfl
end
section
open Go.RowKit Go.Deep


theorem refright_any (A : Option Addr) (n cap : Nat) (b : Int) (r : Bool) (hr : rightN n b = r) (w : World) : Calls Try.prog 6 #[.agg #[.slice A n cap, .int .i64 b]] w (RetB r w) := by
  have HO := hide ((Only.refl [] w).alloc (.cells #[.slice A n cap, .int .i64 b] 29))
  by_cases k1 : n = 4 ∨ n = 16
  · by_cases k2 : 0 ≤ b
    · rcases k1 with rfl | rfl
      all_goals
        have HR := hide hr
        clear hr
        go_enter Try.func6, Try.ntmps6
        go_wp2
        go_ret
        refine retb ?_ HO.out
        rw [← HR.out]
        unfold rightN
        simp [k2]
    · have HR := hide (show false = r by rw [← hr]; unfold rightN; rw [decide_eq_false k2]; simp)
      clear hr
      rcases k1 with rfl | rfl
      all_goals
        go_enter Try.func6, Try.ntmps6
        go_wp2
        go_ret
        exact retb HR.out.symm HO.out
  · have HR := hide (show false = r by rw [← hr]; unfold rightN; rw [decide_eq_false (fun h => k1 (.inl h)), decide_eq_false (fun h => k1 (.inr h))]; rfl)
    have h1 : ((n : Int) == 4) = false := by rw [beq_eq_false_iff_ne]; intro h; exact k1 (.inl (by omega))
    have h2 : ((n : Int) == 16) = false := by rw [beq_eq_false_iff_ne]; intro h; exact k1 (.inr (by omega))
    clear hr k1
    go_enter Try.func6, Try.ntmps6
    go_wp2
    go_ret
    exact retb HR.out.symm HO.out

theorem bit_any (v : Value) (l : List UInt8) (N : List Nat) (i : Nat) (w : World) (hv : Rd w N v (ints .u8 (byts l))) (hi : i < 8 * l.length) (hl : l.length ≤ 1000) :
    Calls Try.prog 21 #[v, .int .i64 i] w fun e w' => e = .returned (.int .u8 ((bitN l i : Nat) : Int)) ∧ w = w' := by
  obtain ⟨A, cap, rfl, hc, hm⟩ := hv.formb
  have hk : i / 8 < l.length := by omega
  obtain ⟨g, o, rfl, _, hg, hcell⟩ := hv.at_.2.2.2 (i / 8) _ (ints_get (byts_get (getD_some hk)))
  have hd : ((i : Int).tdiv 8) = ((i / 8 : Nat) : Int) := by rw [Int.tdiv_eq_ediv_of_nonneg (by omega)]; omega
  have hmo : ((i : Int).tmod 8) = ((i % 8 : Nat) : Int) := by rw [Int.tmod_eq_emod_of_nonneg (by omega)]; omega
  have HB := hide (show bitN l i = (l.getD (i / 8) 0).toNat / 2 ^ (7 - i % 8) % 2 from rfl)
  have hc256 := UInt8.toNat_lt (l.getD (i / 8) 0)
  generalize (l.getD (i / 8) 0).toNat = c at *
  obtain ⟨q, hq⟩ : ∃ q, q = i / 8 := ⟨_, rfl⟩
  obtain ⟨r, hr⟩ : ∃ r, r = i % 8 := ⟨_, rfl⟩
  have hr8 : r < 8 := by omega
  rw [← hr] at HB hmo
  rw [← hq] at hd hk hcell
  clear hv hq hr hi
  go_enter Try.func21, Try.ntmps21
  go_wp2
  go_ret
  exact ⟨by rw [HB.out]; rfl, rfl⟩

theorem refsame_any (v u : Value) (l m : List UInt8) (b c : Int) (N M : List Nat) (w : World) (hv : Rd w N v (ints .u8 (byts l))) (hu : Rd w M u (ints .u8 (byts m))) :
    Calls Try.prog 22 #[.agg #[v, .int .i64 b], .agg #[u, .int .i64 c]] w (RetB (decide (b = c) && decide (l = m)) w) := by
  have HO := hide (((Only.refl [] w).alloc (.cells #[v, .int .i64 b] 29)).alloc (.cells #[u, .int .i64 c] 29))
  have HV := hide ((hv.less (N' := []) (fun x hx => by cases hx)).only HO.out (by simp))
  have HU := hide ((hu.less (N' := []) (fun x hx => by cases hx)).only HO.out (by simp))
  obtain ⟨A, cap, rfl, _, _⟩ := hv.formb
  obtain ⟨A', cap', rfl, _, _⟩ := hu.formb
  clear hv hu
  by_cases h : b = c
  · subst h
    have HR := hide (show (decide (b = b) && decide (l = m)) = decide (l = m) by simp)
    go_enter Try.func22, Try.ntmps22
    go_wp2_with (go_at_call 30; refine (same_bytes _ _ l m _ _ _ HV.out HU.out).mono ?_; rintro e w1 ⟨rfl, rfl⟩)
    go_ret
    exact retb HR.out HO.out
  · have h1 : (b == c) = false := by rw [beq_eq_false_iff_ne]; exact h
    have HR := hide (show (decide (b = c) && decide (l = m)) = false by rw [decide_eq_false h]; rfl)
    clear h
    go_enter Try.func22, Try.ntmps22
    go_wp2_with fail
    go_ret
    exact retb HR.out HO.out

theorem right_nat2 {l : List UInt8} {b : Int} (h : rightV l b = true) : ∃ n : Nat, b = n ∧ n ≤ 8 * l.length ∧ (l.length = 4 ∨ l.length = 16) := by
  have h1 := right_nat h
  simp only [rightV, Bool.and_eq_true, Bool.or_eq_true, decide_eq_true_eq] at h
  exact ⟨b.toNat, by omega, by omega, h.1.1⟩

set_option maxHeartbeats 3200000 in
theorem refhas_any (v u : Value) (l m : List UInt8) (b : Int) (N M : List Nat) (w : World) (hv : Rd w N v (ints .u8 (byts l))) (hu : Rd w M u (ints .u8 (byts m))) :
    Calls Try.prog 27 #[.agg #[v, .int .i64 b], u] w (RetB (hasV l b m) w) := by
  have HO := hide ((Only.refl [] w).alloc (.cells #[v, .int .i64 b] 29))
  have HV := hide ((hv.less (N' := []) (fun x hx => by cases hx)).only HO.out (by simp))
  have HU := hide ((hu.less (N' := []) (fun x hx => by cases hx)).only HO.out (by simp))
  have HBX := hide (Blk.new w 29 #[v, .int .i64 b])
  obtain ⟨A, cap, rfl, hcp, hcm⟩ := hv.formb
  obtain ⟨A', cap', rfl, hcp', hcm'⟩ := hu.formb
  clear hv hu
  obtain ⟨n, hn⟩ : ∃ n, n = l.length := ⟨_, rfl⟩
  obtain ⟨n', hn'⟩ : ∃ n', n' = m.length := ⟨_, rfl⟩
  rw [← hn] at HV HU HBX HO hcp ⊢
  rw [← hn'] at HU hcp' ⊢
  have HN := hide hn
  have HN' := hide hn'
  cases hr : rightV l b with
  | false =>
    have HR := hide (show hasV l b m = false by unfold hasV; rw [hr]; rfl)
    have HRR := hide (show rightN n b = false by rw [hn]; exact hr)
    clear hr hn hn'
    go_enter Try.func27, Try.ntmps27
    go_wp2_with (go_at_call 6; refine (refright_any _ _ _ _ false HRR.out _).mono ?_; rintro e w1 ⟨rfl, ho⟩; have HC := hide (HO.out.trans ho); clear ho)
    go_ret
    exact retb HR.out HC.out
  | true =>
    have HRR := hide (show rightN n b = true by rw [hn]; exact hr)
    by_cases hl : n' = n
    · obtain ⟨bn, rfl, hbn, h416⟩ := right_nat2 hr
      have hl1000 : n ≤ 16 := by omega
      have HNN := hide (hn'.symm.trans (hl.trans hn))
      subst hl
      rw [← hn] at hbn
      have HR := hide (show hasV l (bn : Int) m = decide (sameP l m bn) by unfold hasV; rw [hr, decide_eq_true HNN.out]; rfl)
      clear hr hn hn' h416
      go_enter Try.func27, Try.ntmps27
      go_wp2_with (go_at_call 6; refine (refright_any _ _ _ _ true HRR.out _).mono ?_; rintro e w1 ⟨rfl, ho⟩; have HC := hide (HO.out.trans ho); have HV := hide (HV.out.only ho (by simp)); have HU := hide (HU.out.only ho (by simp)); have HBX := hide (HBX.out.only ho (by simp)); have c0 := HBX.out.cell 0; have c1 := HBX.out.cell 1; simp at c0 c1; clear ho)
      clear c0 c1
      go_loopw [5] (fun i wr => ∃ k : Nat, k ≤ bn ∧ i = .int .i64 k ∧ Hid (∀ j, j < k → bitN l j = bitN m j) ∧ Hid (Only [] w1 wr)) (fun i _ => bn - (intOf i).toNat)
      case atStart => exact ⟨0, Nat.zero_le _, rfl, hide (fun j hj => by omega), hide (Only.refl [] w1)⟩
      case round =>
        obtain ⟨k, hk, rfl, HS, HX⟩ := hrel
        have HBX := hide (HBX.out.only HX.out (by simp))
        have c0 := HBX.out.cell 0
        have c1 := HBX.out.cell 1
        simp at c0 c1
        by_cases hlt : k < bn
        · have hltI : (k : Int) < bn := by omega
          have HK1 := hide (fun n => bit_any _ m _ k (wr.drewN n) ((HU.out.only HX.out (by simp)).only ((Only.refl [] wr).drewN n) (by simp)) (by rw [HNN.out, ← HN.out]; omega) (by rw [HNN.out, ← HN.out]; omega))
          have HK2 := hide (fun n => bit_any _ l _ k (wr.drewN n) ((HV.out.only HX.out (by simp)).only ((Only.refl [] wr).drewN n) (by simp)) (by rw [← HN.out]; omega) (by rw [← HN.out]; omega))
          obtain ⟨x, hx⟩ : ∃ x, x = bitN m k := ⟨_, rfl⟩
          obtain ⟨y, hy⟩ : ∃ y, y = bitN l k := ⟨_, rfl⟩
          rw [← hx] at HK1
          rw [← hy] at HK2
          have HXX := hide hx
          have HYY := hide hy
          clear hx hy
          by_cases he : x = y
          · subst he
            go_wp2_with fail
            go_quiet (first | (go_at_call_of 21 (Value.slice A' n' cap'); exact quiet_left (HK1.out _)) | (go_at_call_of 21 (Value.slice A n' cap); exact quiet_left (HK2.out _)))
            go_wp2_with fail
            go_roundw
            case rel => exact ⟨k + 1, by omega, by go_num, hide (fun j hj => by
              by_cases hjk : j = k
              · subst hjk; rw [← HXX.out, ← HYY.out]
              · exact HS.out j (by omega)), hide (HX.out.drewN _)⟩
            case measure => simp [intOf]; omega
          · have heI : ¬ (x : Int) = (y : Int) := by omega
            have HE := hide he
            clear he
            go_wp2_with fail
            go_quiet (first | (go_at_call_of 21 (Value.slice A' n' cap'); exact quiet_left (HK1.out _)) | (go_at_call_of 21 (Value.slice A n' cap); exact quiet_left (HK2.out _)))
            go_wp2_with fail
            go_ret
            refine retb (HR.out.trans (decide_eq_false fun h => ?_)) (HC.out.trans (HX.out.drewN _))
            rw [same_bits (by rw [← HN.out]; exact hbn)] at h
            exact HE.out (by rw [HXX.out, HYY.out]; exact (h k hlt).symm)
        · obtain rfl : k = bn := by omega
          have hge : ¬ (k : Int) < k := by omega
          go_wp2_with fail
          go_ret
          refine retb (HR.out.trans (decide_eq_true ?_)) (HC.out.trans HX.out)
          rw [same_bits (by rw [← HN.out]; exact hbn)]
          exact HS.out
    · have hlI : ¬ (n' : Int) = n := by omega
      have HR := hide (show hasV l b m = false by unfold hasV; rw [decide_eq_false (show ¬ m.length = l.length by rw [← hn, ← hn']; exact hl)]; simp)
      clear hr hn hn' hl
      go_enter Try.func27, Try.ntmps27
      go_wp2_with (go_at_call 6; refine (refright_any _ _ _ _ true HRR.out _).mono ?_; rintro e w1 ⟨rfl, ho⟩; have HC := hide (HO.out.trans ho); have HBX := hide (HBX.out.only ho (by simp)); have c0 := HBX.out.cell 0; have c1 := HBX.out.cell 1; simp at c0 c1; clear ho)
      go_ret
      exact retb HR.out HC.out
end
section
open Go.RowKit Go.Deep

theorem i64_and1 (n : Int) : bits .and .i64 n 1 = n % 2 := by
  have h1 : (BitVec.ofInt 64 1).toNat = 2 ^ 1 - 1 := by decide
  have key : (BitVec.ofInt 64 n &&& BitVec.ofInt 64 1).toNat = (n % ((2 ^ 64 : Nat) : Int)).toNat % 2 ^ 1 := by
    rw [BitVec.toNat_and, BitVec.toNat_ofInt, h1, Nat.and_two_pow_sub_one_eq_mod]
  show IntKind.i64.wrap ((BitVec.ofInt 64 n &&& BitVec.ofInt 64 1).toNat : Nat) = n % 2
  rw [key, IntKind.wrap_i64]
  omega
theorem bit_num (c r : Nat) (hc : c < 256) : bits .and .i64 (wrap64 ((c : Int) / 2 ^ (7 - r))) 1 = ((c / 2 ^ (7 - r) % 2 : Nat) : Int) := by
  have h : (c : Int) / 2 ^ (7 - r) = ((c / 2 ^ (7 - r) : Nat) : Int) := by rw [Int.natCast_ediv, Int.natCast_pow]; rfl
  have h2 : c / 2 ^ (7 - r) ≤ c := Nat.div_le_self _ _
  rw [i64_and1, h]
  unfold wrap64
  omega
theorem tbit_any (v : Value) (l : List UInt8) (N : List Nat) (i : Nat) (w : World) (hv : Rd w N v (ints .u8 (byts l))) (hi : i < 8 * l.length) (hl : l.length ≤ 1000) :
    Calls Try.prog 19 #[v, .int .i64 i] w fun e w' => e = .returned (.int .i64 ((bitN l i : Nat) : Int)) ∧ w = w' := by
  obtain ⟨A, cap, rfl, hc, hm⟩ := hv.formb
  have hk : i / 8 < l.length := by omega
  obtain ⟨g, o, rfl, _, hg, hcell⟩ := hv.at_.2.2.2 (i / 8) _ (ints_get (byts_get (getD_some hk)))
  have hd : ((i : Int).tdiv 8) = ((i / 8 : Nat) : Int) := by rw [Int.tdiv_eq_ediv_of_nonneg (by omega)]; omega
  have hmo : ((i : Int).tmod 8) = ((i % 8 : Nat) : Int) := by rw [Int.tmod_eq_emod_of_nonneg (by omega)]; omega
  have HB := hide (show bitN l i = (l.getD (i / 8) 0).toNat / 2 ^ (7 - i % 8) % 2 from rfl)
  have hc256 := UInt8.toNat_lt (l.getD (i / 8) 0)
  generalize (l.getD (i / 8) 0).toNat = c at *
  obtain ⟨q, hq⟩ : ∃ q, q = i / 8 := ⟨_, rfl⟩
  obtain ⟨r, hr⟩ : ∃ r, r = i % 8 := ⟨_, rfl⟩
  have hr8 : r < 8 := by omega
  rw [← hr] at HB hmo
  rw [← hq] at hd hk hcell
  clear hv hq hr hi
  go_enter Try.func19, Try.ntmps19
  go_wp2
  go_ret
  refine ⟨congrArg (fun x => Ending.returned (.int .i64 x)) ?_, rfl⟩
  rw [HB.out]
  exact bit_num c r hc256

theorem root_any (T n : Nat) (s : Bool) (hs : s = !(decide (n = 4))) (w : World) : Calls Try.prog 18 #[.pointer (some ⟨T, 0, none⟩), .int .i64 n] w fun e w' => e = .returned (.pointer (some ⟨T, rootOff s, none⟩)) ∧ w = w' := by
  by_cases h : n = 4
  · have e1 : ((n : Int) == 4) = true := by rw [beq_iff_eq]; omega
    have HS := hide (show s = false by rw [hs, decide_eq_true h]; rfl)
    clear h hs
    go_enter Try.func18, Try.ntmps18
    go_wp2
    go_ret
    exact ⟨by rw [HS.out]; rfl, rfl⟩
  · have e1 : ((n : Int) == 4) = false := by rw [beq_eq_false_iff_ne]; omega
    have HS := hide (show s = true by rw [hs, decide_eq_false h]; rfl)
    clear h hs
    go_enter Try.func18, Try.ntmps18
    go_wp2
    go_ret
    exact ⟨by rw [HS.out]; rfl, rfl⟩

def noTh : Bool → List Bool → Bool := fun _ _ => false
def noOw : Bool → List Bool → Int := fun _ _ => 0
def rootAd (T : Nat) : Ads := fun s π => if π = [] then some (T, rootOff s) else none
theorem trie_fresh (w : World) (T : Nat) (t : TypeId) (h : Blk w T t #[.int .i64 0, .bool false, .pointer none, .pointer none, .int .i64 0, .bool false, .pointer none, .pointer none]) : TrIs w T [T] (rootAd T) noTh noOw := by
  refine ⟨⟨fun s => by simp [rootAd], fun s b π hs => by simp [rootAd] at hs, fun s π g o ha => ?_, fun s π s' π' g o o' h1 h2 => ?_⟩, fun g hg => ?_, fun s π g o ha => ?_, fun s π _ => ⟨rfl, rfl⟩⟩
  · unfold rootAd at ha
    split at ha
    · injection ha with ha; injection ha with e _; simp [e]
    · cases ha
  · right
    unfold rootAd at h1 h2
    split at h1
    · split at h2
      · exact ⟨by assumption, by assumption⟩
      · cases h2
    · cases h1
  · rw [List.mem_singleton.1 hg]; exact h.lt
  · unfold rootAd at ha
    split at ha
    · injection ha with ha
      injection ha with e1 e2
      subst e1 e2
      refine ⟨h.lt, fun j u hu => ?_, fun j => h.frozen _⟩
      rw [h.cell]
      rename_i hp
      subst hp
      have hk : ∀ c, rootAd T s [c] = none := fun c => by simp [rootAd]
      simp only [nodeC, kidV, noTh, noOw, hk, Option.map_none] at hu
      cases s
      · rw [← hu]
        rcases j with _ | _ | _ | _ | j
        all_goals first | rfl | (simp at hu)
      · rw [← hu]
        rcases j with _ | _ | _ | _ | j
        all_goals first | rfl | (simp at hu)
    · cases ha

theorem new_any (w : World) : Calls Try.prog 5 #[] w fun e w' => e = .returned (.pointer (some ⟨w.heap.size, 0, none⟩)) ∧ TrIs w' w.heap.size [w.heap.size] (rootAd w.heap.size) noTh noOw ∧ Only [] w w' := by
  have HT := hide (trie_fresh _ _ _ (Blk.new w 51 #[.int .i64 0, .bool false, .pointer none, .pointer none, .int .i64 0, .bool false, .pointer none, .pointer none]))
  go_enter Try.func5, Try.ntmps5
  go_wp2
  go_ret
  exact ⟨rfl, HT.out, (Only.refl [] w).alloc _⟩
end
section
open Go.RowKit Go.Deep

def PutPost (T : Nat) (bl : List Nat) (th : Bool → List Bool → Bool) (ow : Bool → List Bool → Int) (w : World) (e : Ending) (w' : World) : Prop :=
  e = .returned (.int .i64 0) ∧ ∃ bl' ad', TrIs w' T bl' ad' th ow ∧ Only bl w w' ∧ ∀ g ∈ bl', g ∈ bl ∨ w.heap.size ≤ g

theorem bit_bool (l : List UInt8) (k : Nat) : ∃ bb : Bool, bitN l k = bb.toNat ∧ pathR l (k + 1) = bb :: pathR l k := by
  have h := bit_lt l k
  rcases (show bitN l k = 0 ∨ bitN l k = 1 by omega) with h0 | h1
  · exact ⟨false, h0, by show (bitN l k == 1) :: pathR l k = _; rw [h0]; rfl⟩
  · exact ⟨true, h1, by show (bitN l k == 1) :: pathR l k = _; rw [h1]; rfl⟩

set_option maxRecDepth 100000 in
set_option maxHeartbeats 6400000 in
theorem put_yes (T : Nat) (v : Value) (l : List UInt8) (b : Nat) (x : Int) (bl : List Nat) (ad : Ads) (th : Bool → List Bool → Bool) (ow : Bool → List Bool → Int) (w : World) (hv : Rd w bl v (ints .u8 (byts l))) (hr : rightV l b = true) (hx : 0 ≤ x)
    (hT : TrIs w T bl ad th ow) : Calls Try.prog 7 #[.pointer (some ⟨T, 0, none⟩), .agg #[v, .int .i64 b], .int .i64 x] w
      (PutPost T bl (upd2 th (!(decide (l.length = 4))) (pathR l b) true) (upd2 ow (!(decide (l.length = 4))) (pathR l b) x) w) := by
  have HO := hide ((Only.refl [] w).alloc (.cells #[v, .int .i64 b] 29))
  have HV := hide (hv.only HO.out (by simp))
  have HBX := hide (Blk.new w 29 #[v, .int .i64 b])
  have HTR := hide (hT.only HO.out (by simp))
  have HGB := hide (show w.heap.size ∉ bl from fun h => by have := hT.lt _ h; omega)
  obtain ⟨A, cap, rfl, hcp, hcm⟩ := hv.formb
  obtain ⟨n0, h0, hbn, h416⟩ := right_nat2 hr
  obtain rfl : b = n0 := by omega
  have HRR := hide (show rightN l.length b = true from hr)
  obtain ⟨n, hn⟩ : ∃ n, n = l.length := ⟨_, rfl⟩
  rw [← hn] at HV HBX HO HTR HRR hcp hbn h416 ⊢
  have HN := hide hn
  have hl16 : n ≤ 16 := by omega
  have hb128 : b ≤ 128 := by omega
  have HBN := hide hbn
  have hxn : ¬ x < 0 := by omega
  obtain ⟨s, hs⟩ : ∃ s, s = !(decide (n = 4)) := ⟨_, rfl⟩
  rw [← hs]
  have HS := hide hs
  clear hv hr hn h416 hs hbn hT h0
  go_enter Try.func7, Try.ntmps7
  go_wp2_with (first
    | (go_at_call 17; refine (right_any _ _ _ _ true HRR.out _).mono ?_; rintro e w1 ⟨rfl, ho⟩; have HC := hide (HO.out.trans ho); have HBX := hide (HBX.out.only ho (by simp)); have HV := hide (HV.out.only ho (by simp)); have HTR := hide (HTR.out.only ho (by simp)); have c0 := HBX.out.cell 0; have c1 := HBX.out.cell 1; simp at c0 c1; clear ho)
    | (go_at_call 18; refine (root_any T n s HS.out _).mono ?_; rintro e w2 ⟨rfl, rfl⟩))
  clear c0 c1
  go_loopw [7, 27] (fun p i wr => ∃ (k g o : Nat) (bl' : List Nat) (ad' : Ads), k ≤ b ∧ i = .int .i64 k ∧ p = .pointer (some ⟨g, o, none⟩) ∧ Hid (TrIs wr T bl' ad' th ow) ∧ Hid (ad' s (pathR l k) = some (g, o)) ∧ Hid (Only bl w1 wr) ∧ Hid (∀ y ∈ bl', y ∈ bl ∨ w1.heap.size ≤ y)) (fun _ i _ => b - (intOf i).toNat)
  case atStart => exact ⟨0, T, rootOff s, bl, ad, Nat.zero_le _, rfl, rfl, HTR, hide (HTR.out.ads.root s), hide (Only.refl _ _), hide (fun y hy => .inl hy)⟩
  case round =>
    obtain ⟨k, g, o, bl', ad', hk, rfl, rfl, HT2, HA, HX, HBL⟩ := hrel
    have HBX2 := hide (HBX.out.only HX.out HGB.out)
    have c0 := HBX2.out.cell 0
    have c1 := HBX2.out.cell 1
    simp at c0 c1
    by_cases hlt : k < b
    · have hltI : (k : Int) < b := by omega
      obtain ⟨bb, hbb, hpath⟩ := bit_bool l k
      obtain ⟨q, hq⟩ : ∃ q, q = bb.toNat := ⟨_, rfl⟩
      have hq2 : q < 2 := by rw [hq]; cases bb <;> decide
      have HK := hide (fun n0 => tbit_any _ l bl k (wr.drewN n0) ((HV.out.only HX.out (fun x hx => hx)).only ((Only.refl [] wr).drewN n0) (by simp)) (by rw [← HN.out]; have := HBN.out; omega) (by rw [← HN.out]; omega))
      rw [hbb, ← hq] at HK
      obtain ⟨_, _, hkid⟩ := HT2.out.at_ HA.out
      have hkid := hkid bb
      have hfz := (HT2.out.cells s _ g o HA.out).2.2
      rw [← hq, ← Nat.add_assoc] at hkid
      have HQ := hide hq
      have HP := hide hpath
      have HG := hide (HT2.out.lt g (HT2.out.ads.mem _ _ _ _ HA.out))
      clear hq hpath hbb
      cases hc : ad' s (bb :: pathR l k) with
      | none =>
        rw [hc] at hkid
        simp only [kidV, Option.map_none] at hkid
        have hall : ∀ m : Nat, ((wr.drewN m).alloc (.cells #[.int .i64 0, .bool false, .pointer none, .pointer none] 49)).cell? ⟨g, o + 2 + q, none⟩ = some (.pointer none) := fun m =>
          (cell_only (((Only.refl [] wr).drewN m).alloc _) HG.out (by simp)).trans hkid
        have hf2 := hfz (2 + q)
        rw [← Nat.add_assoc] at hf2
        have hallf : ∀ m : Nat, ((wr.drewN m).alloc (.cells #[.int .i64 0, .bool false, .pointer none, .pointer none] 49)).frozen? ⟨g, o + 2 + q, none⟩ = false := fun m =>
          (frozen_only (((Only.refl [] wr).drewN m).alloc _) HG.out (by simp)).trans hf2
        have HGM := hide (HBL.out g (HT2.out.ads.mem _ _ _ _ HA.out))
        have HNK := hide (fun m : Nat => (HT2.out.only ((Only.refl [] wr).drewN m) (by simp)).new_kid HA.out bb hc 49)
        rw [← HQ.out, ← Nat.add_assoc] at HNK
        have HCC := hide hc
        clear hc hfz
        go_wp2_with fail
        go_quiet (exact quiet_left (HK.out _))
        go_wp2_with fail
        go_roundw
        case rel => exact ⟨k + 1, wr.heap.size, 0, wr.heap.size :: bl', upd2 ad' s (bb :: pathR l k) (some (wr.heap.size, 0)), by omega, by go_num, rfl, hide (HNK.out _), hide (by rw [HP.out, upd2_same]), hide (((HX.out.drewN _).alloc _).setCell (p := ⟨g, o + 2 + q, none⟩) HGM.out _), hide (fun y hy => by
          rcases List.mem_cons.1 hy with rfl | hy
          · exact .inr HX.out.size
          · exact HBL.out y hy)⟩
        case measure => simp [intOf]; omega
      | some p =>
        obtain ⟨g2, o2⟩ := p
        rw [hc] at hkid
        simp only [kidV, Option.map_some] at hkid
        have HCC := hide hc
        clear hc hfz
        go_wp2_with fail
        go_quiet (exact quiet_left (HK.out _))
        go_wp2_with fail
        go_roundw
        case rel => exact ⟨k + 1, g2, o2, bl', ad', by omega, by go_num, rfl, hide (HT2.out.only ((Only.refl [] wr).drewN _) (by simp)), hide (by rw [HP.out]; exact HCC.out), hide (HX.out.drewN _), HBL⟩
        case measure => simp [intOf]; omega
    · obtain rfl : k = b := by omega
      have hge : ¬ (k : Int) < k := by omega
      have hfz := (HT2.out.cells s _ g o HA.out).2.2
      have hf0 := hfz 0
      have hf1 := hfz 1
      rw [Nat.add_zero] at hf0
      obtain ⟨d0, d1, _⟩ := HT2.out.at_ HA.out
      have HGM := hide (HBL.out g (HT2.out.ads.mem _ _ _ _ HA.out))
      have HF := hide ((HT2.out.set_ow HA.out x).set_th HA.out true)
      clear hfz
      go_wp2_with fail
      go_ret
      exact ⟨rfl, bl', ad', HF.out, ((HC.out.mono (S' := bl) (fun y hy => by cases hy)).trans ((HX.out.setCell (p := ⟨g, o, none⟩) HGM.out _).setCell (p := ⟨g, o + 1, none⟩) HGM.out _)), fun y hy => (HBL.out y hy).imp id (fun h => Nat.le_trans HC.out.size h)⟩
end
section
open Go.RowKit Go.Deep

theorem put_form (T : Nat) (A : Option Addr) (n cap : Nat) (b x : Int) (w : World) (hr : rightN n b = false) : Calls Try.prog 7 #[.pointer (some ⟨T, 0, none⟩), .agg #[.slice A n cap, .int .i64 b], .int .i64 x] w fun e w' => e = .returned (.int .i64 3) ∧ Only [] w w' := by
  have HO := hide ((Only.refl [] w).alloc (.cells #[.slice A n cap, .int .i64 b] 29))
  have HRR := hide hr
  clear hr
  go_enter Try.func7, Try.ntmps7
  go_wp2_with (go_at_call 17; refine (right_any _ _ _ _ false HRR.out _).mono ?_; rintro e w1 ⟨rfl, ho⟩; have HC := hide (HO.out.trans ho); clear ho)
  go_ret
  exact ⟨rfl, HC.out⟩
theorem put_arg (T : Nat) (A : Option Addr) (n cap : Nat) (b x : Int) (w : World) (hr : rightN n b = true) (hx : x < 0) : Calls Try.prog 7 #[.pointer (some ⟨T, 0, none⟩), .agg #[.slice A n cap, .int .i64 b], .int .i64 x] w fun e w' => e = .returned (.int .i64 2) ∧ Only [] w w' := by
  have HO := hide ((Only.refl [] w).alloc (.cells #[.slice A n cap, .int .i64 b] 29))
  have HRR := hide hr
  clear hr
  go_enter Try.func7, Try.ntmps7
  go_wp2_with (go_at_call 17; refine (right_any _ _ _ _ true HRR.out _).mono ?_; rintro e w1 ⟨rfl, ho⟩; have HC := hide (HO.out.trans ho); clear ho)
  go_ret
  exact ⟨rfl, HC.out⟩

theorem owner_off (T : Nat) (A : Option Addr) (n cap : Nat) (w : World) (h4 : n ≠ 4) (h16 : n ≠ 16) : Calls Try.prog 14 #[.pointer (some ⟨T, 0, none⟩), .slice A n cap] w fun e w' => e = .returned (.tuple #[.int .i64 0, .bool false]) ∧ w = w' := by
  have e1 : ((n : Int) != 4) = true := by rw [bne_iff_ne]; omega
  have e2 : ((n : Int) != 16) = true := by rw [bne_iff_ne]; omega
  clear h4 h16
  go_enter Try.func14, Try.ntmps14
  go_wp2
  go_ret2
  exact ⟨rfl, rfl⟩

def ownerV (th : Bool → List Bool → Bool) (ow : Bool → List Bool → Int) (l : List UInt8) : Int × Bool := bestV (th (!(decide (l.length = 4)))) (ow (!(decide (l.length = 4)))) l (8 * l.length + 1)
def OwnPost (r : Int × Bool) (w : World) (e : Ending) (w' : World) : Prop := e = .returned (.tuple #[.int .i64 r.1, .bool r.2]) ∧ Only [] w w'
theorem ownpost {r s : Int × Bool} {w w' : World} (h : r = s) (ho : Only [] w w') : OwnPost r w (.returned (.tuple #[.int .i64 s.1, .bool s.2])) w' := by subst h; exact ⟨rfl, ho⟩

set_option maxRecDepth 100000 in
set_option maxHeartbeats 6400000 in
theorem owner_any (T : Nat) (v : Value) (l : List UInt8) (N bl : List Nat) (ad : Ads) (th : Bool → List Bool → Bool) (ow : Bool → List Bool → Int) (w : World) (hv : Rd w N v (ints .u8 (byts l))) (h416 : l.length = 4 ∨ l.length = 16)
    (hT : TrIs w T bl ad th ow) : Calls Try.prog 14 #[.pointer (some ⟨T, 0, none⟩), v] w (OwnPost (ownerV th ow l) w) := by
  have HV := hide (hv.less (N' := []) (fun x hx => by cases hx))
  have HTR := hide hT
  obtain ⟨A, cap, rfl, hcp, hcm⟩ := hv.formb
  obtain ⟨s, hs⟩ : ∃ s, s = !(decide (l.length = 4)) := ⟨_, rfl⟩
  have HOV := hide (show ownerV th ow l = bestV (th s) (ow s) l (8 * l.length + 1) by unfold ownerV; rw [← hs])
  obtain ⟨n, hn⟩ : ∃ n, n = l.length := ⟨_, rfl⟩
  rw [← hn] at HV hcp h416 HOV hs ⊢
  have HN := hide hn
  have HS := hide hs
  have hl16 : n ≤ 16 := by omega
  clear hv hn hs hT
  rcases h416 with h4 | h4
  all_goals
    have HNV := hide h4
    first
      | (have e1 : ((n : Int) != 4) = false := by rw [bne_eq_false_iff_eq]; omega)
      | (have e1 : ((n : Int) != 4) = true := by rw [bne_iff_ne]; omega
         have e2 : ((n : Int) != 16) = false := by rw [bne_eq_false_iff_eq]; omega)
    clear h4
    go_enter Try.func14, Try.ntmps14
    go_wp2_with (go_at_call 18; refine (root_any T n s HS.out _).mono ?_; rintro e w2 ⟨rfl, rfl⟩)
    go_loopw [6, 7, 8, 9] (fun ow' fo p i wr => ∃ k : Nat, k ≤ 8 * n ∧ i = .int .i64 k ∧ p = kidV (ad s (pathR l k)) ∧ ow' = .int .i64 (bestV (th s) (ow s) l k).1 ∧ fo = .bool (bestV (th s) (ow s) l k).2 ∧ Hid (Only [] w wr)) (fun _ _ _ i _ => 8 * n - (intOf i).toNat)
    case atStart => exact ⟨0, Nat.zero_le _, rfl, by rw [show pathR l 0 = [] from rfl, HTR.out.ads.root s]; rfl, rfl, rfl, hide (Only.refl [] w)⟩
    case round =>
      obtain ⟨k, hk, rfl, rfl, rfl, rfl, HX⟩ := hrel
      have HT2 := hide (HTR.out.only HX.out (by simp))
      cases hc : ad s (pathR l k) with
      | none =>
        have HE := hide (show bestV (th s) (ow s) l (8 * n + 1) = bestV (th s) (ow s) l k by
          rw [show 8 * n + 1 = k + (8 * n + 1 - k) by omega]
          refine best_stop (fun j hj => ?_) _
          have hz := path_none HTR.out.ads hc (j - k)
          rw [show k + (j - k) = j by omega] at hz
          exact (HTR.out.bare s _ hz).1)
        simp only [kidV, Option.map_none]
        clear hc
        go_wp2_with fail
        go_ret2
        exact ownpost (HOV.out.trans HE.out) HX.out
      | some p =>
        obtain ⟨g, o⟩ := p
        simp only [kidV, Option.map_some]
        obtain ⟨d0, d1, hkid⟩ := HT2.out.at_ hc
        have hbs : bestV (th s) (ow s) l (k + 1) = if th s (pathR l k) then (ow s (pathR l k), true) else bestV (th s) (ow s) l k := rfl
        cases hth : th s (pathR l k) with
        | false =>
          rw [hth] at d1
          have HB := hide (show bestV (th s) (ow s) l (k + 1) = bestV (th s) (ow s) l k by rw [hbs, hth]; rfl)
          clear hth hbs
          by_cases hlt : k < 8 * n
          · have e8 : ((k : Int) == 8 * (n : Int)) = false := by rw [beq_eq_false_iff_ne]; omega
            obtain ⟨bb, hbb, hpath⟩ := bit_bool l k
            obtain ⟨q, hq⟩ : ∃ q, q = bb.toNat := ⟨_, rfl⟩
            have hq2 : q < 2 := by rw [hq]; cases bb <;> decide
            have HK := hide (fun n0 => tbit_any _ l [] k (wr.drewN n0) ((HV.out.only HX.out (by simp)).only ((Only.refl [] wr).drewN n0) (by simp)) (by rw [← HN.out]; omega) (by rw [← HN.out]; omega))
            rw [hbb, ← hq] at HK
            have hkid := hkid bb
            rw [← hq, ← Nat.add_assoc] at hkid
            have HP := hide hpath
            clear hq hpath hbb hc
            go_wp2_with fail
            go_quiet (exact quiet_left (HK.out _))
            go_wp2_with fail
            go_roundw
            case rel => exact ⟨k + 1, by omega, by go_num, (by rw [HP.out]; rfl), by rw [HB.out], by rw [HB.out], hide (HX.out.drewN _)⟩
            case measure => simp [intOf]; omega
          · obtain rfl : k = 8 * n := by omega
            have e8 : (((8 * n : Nat) : Int) == 8 * (n : Int)) = true := by rw [beq_iff_eq]; omega
            have HE := hide (HOV.out.trans HB.out)
            clear hkid hc
            go_wp2_with fail
            go_ret2
            exact ownpost HE.out HX.out
        | true =>
          rw [hth] at d1
          have HB := hide (show bestV (th s) (ow s) l (k + 1) = (ow s (pathR l k), true) by rw [hbs, hth]; rfl)
          clear hth hbs
          by_cases hlt : k < 8 * n
          · have e8 : ((k : Int) == 8 * (n : Int)) = false := by rw [beq_eq_false_iff_ne]; omega
            obtain ⟨bb, hbb, hpath⟩ := bit_bool l k
            obtain ⟨q, hq⟩ : ∃ q, q = bb.toNat := ⟨_, rfl⟩
            have hq2 : q < 2 := by rw [hq]; cases bb <;> decide
            have HK := hide (fun n0 => tbit_any _ l [] k (wr.drewN n0) ((HV.out.only HX.out (by simp)).only ((Only.refl [] wr).drewN n0) (by simp)) (by rw [← HN.out]; omega) (by rw [← HN.out]; omega))
            rw [hbb, ← hq] at HK
            have hkid := hkid bb
            rw [← hq, ← Nat.add_assoc] at hkid
            have HP := hide hpath
            clear hq hpath hbb hc
            go_wp2_with fail
            go_quiet (exact quiet_left (HK.out _))
            go_wp2_with fail
            go_roundw
            case rel => exact ⟨k + 1, by omega, by go_num, (by rw [HP.out]; rfl), by rw [HB.out], by rw [HB.out], hide (HX.out.drewN _)⟩
            case measure => simp [intOf]; omega
          · obtain rfl : k = 8 * n := by omega
            have e8 : (((8 * n : Nat) : Int) == 8 * (n : Int)) = true := by rw [beq_iff_eq]; omega
            have HE := hide (HOV.out.trans HB.out)
            clear hkid hc
            go_wp2_with fail
            go_ret2
            exact ownpost HE.out HX.out
end
end Go.Proofs.Ytokaobilphfdoaa

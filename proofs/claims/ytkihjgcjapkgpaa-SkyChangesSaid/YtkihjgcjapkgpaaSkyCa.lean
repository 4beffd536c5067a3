/-
  SkyChanges: the changes from mast to mast are those of the chapter, second by second, or there is its error; turned they are the same. Proved for every input; no condition.
-/
import Derived.Test.YtkihjgcjapkgpaaSkyF
import Derived.Test.YtkihjgcjapkgpaaSkyH
namespace Go.Proofs.Ytkihjgcjapkgpaa
open Go.RowKit Go.Deep Go.ChangeShapes Go.WideShapes Go.ChangeAt

set_option maxRecDepth 100000 in
theorem skych_g1 (w : World) (mv lv : Value) (m : List (Int × Int)) (s : Int × Int) (l : List Lg) (T q : Int) (hm : RdS 2 ptc w [] mv m) (hmf : ∀ p ∈ m, Fit p) (hv : RdS 3 lgc w [] lv l) (hfit : ∀ g ∈ l, Fit3 g) (hsf : Fit s) (h1 : 20 < m.length) :
    Calls Try.prog 4 #[mv, .agg #[.int .i64 s.1, .int .i64 s.2, lv], .int .i64 T, .int .i64 q] w fun e w' => e = .returned (.bool true) ∧ Only [] w w' := by
  obtain ⟨Am, cm, rfl, _, _⟩ := hm.form
  obtain ⟨A, cap, rfl, hc, _⟩ := hv.form
  clear hm hv hmf hfit hsf
  generalize m.length = nm at *
  generalize l.length = n at *
  have f1 : (20 : Int) < nm := by omega
  have HB := hide (Blk.new w 41 #[.int .i64 s.1, .int .i64 s.2, .slice A n cap])
  have HO := hide ((Only.refl [] w).alloc (.cells #[.int .i64 s.1, .int .i64 s.2, .slice A n cap] 41))
  have HC := hide (Only.refl [] (w.alloc (.cells #[.int .i64 s.1, .int .i64 s.2, .slice A n cap] 41)))
  go_enter Try.func4, Try.ntmps4
  go_wp2_with (go_at_call 7; refine (awake21 _).mono ?_; rintro e w1 ⟨rfl, ho⟩; (first | (have HC := hide (HC.out.trans ho)) | (have HC := hide (HC.out.drew.trans ho))); clear ho; have k0 := (HB.out.only HC.out (by simp)).cell 0; have k1 := (HB.out.only HC.out (by simp)).cell 1; have k2 := (HB.out.only HC.out (by simp)).cell 2; simp at k0 k1 k2)
  go_ret
  exact ⟨rfl, HO.out.trans HC.out⟩

set_option maxRecDepth 100000 in
theorem skych_g2 (w : World) (mv lv : Value) (m : List (Int × Int)) (s : Int × Int) (l : List Lg) (T q : Int) (hm : RdS 2 ptc w [] mv m) (hmf : ∀ p ∈ m, Fit p) (hv : RdS 3 lgc w [] lv l) (hfit : ∀ g ∈ l, Fit3 g) (hsf : Fit s) (h1 : ¬ 20 < m.length) (h2 : 10 < l.length) :
    Calls Try.prog 4 #[mv, .agg #[.int .i64 s.1, .int .i64 s.2, lv], .int .i64 T, .int .i64 q] w fun e w' => e = .returned (.bool true) ∧ Only [] w w' := by
  obtain ⟨Am, cm, rfl, _, _⟩ := hm.form
  obtain ⟨A, cap, rfl, hc, _⟩ := hv.form
  clear hm hv hmf hfit hsf
  generalize m.length = nm at *
  generalize l.length = n at *
  have f1 : ¬ (20 : Int) < nm := by omega
  have f2 : (10 : Int) < n := by omega
  have HB := hide (Blk.new w 41 #[.int .i64 s.1, .int .i64 s.2, .slice A n cap])
  have HO := hide ((Only.refl [] w).alloc (.cells #[.int .i64 s.1, .int .i64 s.2, .slice A n cap] 41))
  have HC := hide (Only.refl [] (w.alloc (.cells #[.int .i64 s.1, .int .i64 s.2, .slice A n cap] 41)))
  go_enter Try.func4, Try.ntmps4
  go_wp2_with (go_at_call 7; refine (awake21 _).mono ?_; rintro e w1 ⟨rfl, ho⟩; (first | (have HC := hide (HC.out.trans ho)) | (have HC := hide (HC.out.drew.trans ho))); clear ho; have k0 := (HB.out.only HC.out (by simp)).cell 0; have k1 := (HB.out.only HC.out (by simp)).cell 1; have k2 := (HB.out.only HC.out (by simp)).cell 2; simp at k0 k1 k2)
  go_ret
  exact ⟨rfl, HO.out.trans HC.out⟩

set_option maxRecDepth 100000 in
theorem skych_g3 (w : World) (mv lv : Value) (m : List (Int × Int)) (s : Int × Int) (l : List Lg) (T q : Int) (hm : RdS 2 ptc w [] mv m) (hmf : ∀ p ∈ m, Fit p) (hv : RdS 3 lgc w [] lv l) (hfit : ∀ g ∈ l, Fit3 g) (hsf : Fit s) (h1 : ¬ 20 < m.length) (h2 : ¬ 10 < l.length) (h3 : 200 < T) (h4 : T ≤ 100000) :
    Calls Try.prog 4 #[mv, .agg #[.int .i64 s.1, .int .i64 s.2, lv], .int .i64 T, .int .i64 q] w fun e w' => e = .returned (.bool true) ∧ Only [] w w' := by
  obtain ⟨Am, cm, rfl, _, _⟩ := hm.form
  obtain ⟨A, cap, rfl, hc, _⟩ := hv.form
  clear hm hv hmf hfit hsf
  generalize m.length = nm at *
  generalize l.length = n at *
  have f1 : ¬ (20 : Int) < nm := by omega
  have f2 : ¬ (10 : Int) < n := by omega
  have HB := hide (Blk.new w 41 #[.int .i64 s.1, .int .i64 s.2, .slice A n cap])
  have HO := hide ((Only.refl [] w).alloc (.cells #[.int .i64 s.1, .int .i64 s.2, .slice A n cap] 41))
  have HC := hide (Only.refl [] (w.alloc (.cells #[.int .i64 s.1, .int .i64 s.2, .slice A n cap] 41)))
  go_enter Try.func4, Try.ntmps4
  go_wp2_with (go_at_call 7; refine (awake21 _).mono ?_; rintro e w1 ⟨rfl, ho⟩; (first | (have HC := hide (HC.out.trans ho)) | (have HC := hide (HC.out.drew.trans ho))); clear ho; have k0 := (HB.out.only HC.out (by simp)).cell 0; have k1 := (HB.out.only HC.out (by simp)).cell 1; have k2 := (HB.out.only HC.out (by simp)).cell 2; simp at k0 k1 k2)
  go_ret
  exact ⟨rfl, HO.out.trans HC.out⟩

set_option maxRecDepth 100000 in
set_option maxHeartbeats 6400000 in
theorem skych_badma (w : World) (mv lv : Value) (m : List (Int × Int)) (s : Int × Int) (l : List Lg) (T q : Int) (hm : RdS 2 ptc w [] mv m) (hmf : ∀ p ∈ m, Fit p) (hv : RdS 3 lgc w [] lv l) (hfit : ∀ g ∈ l, Fit3 g) (hsf : Fit s) (h1 : ¬ 20 < m.length) (h2 : ¬ 10 < l.length) (hmv : mastsV m = false) (h3 : ¬ 200 < T) :
    Calls Try.prog 4 #[mv, .agg #[.int .i64 s.1, .int .i64 s.2, lv], .int .i64 T, .int .i64 q] w fun e w' => e = .returned (.bool true) ∧ Only [] w w' := by
  have HPTS := hide (show ∀ W, Only [] w W → _ from fun W ho => points_any W [] mv m (hm.only ho (by simp)) (by omega))
  have HLEG := hide (show ∀ W, Only [] w W → _ from fun W ho => legs_any W [] lv s l (hv.only ho (by simp)) (by omega))
  have HMR := hide (show ∀ W v', RdS 2 ptc W [] v' m → _ from fun W v' h => masts_ref W [] v' m h (by omega))
  have HRO := hide (show ∀ W v', RdS 3 lgc W [] v' l → _ from fun W v' h => routes_ref W [] v' s l h (by omega) hfit)
  have HOF := hide (show ∀ W p, _ from fun W p => of_any W p)
  have HCH := hide (show ∀ W, Only [] w W → _ from fun W ho => changes_bad W [] [] mv lv m s l T (hm.only ho (by simp)) (hv.only ho (by simp)) (by omega) (by omega) hmf hfit hsf (.inl hmv))
  have HMV := hide hmv
  clear hmv
  obtain ⟨Am, cm, rfl, hcm, _⟩ := hm.form
  obtain ⟨A, cap, rfl, hc, _⟩ := hv.form
  obtain ⟨nm, hnm⟩ : ∃ n, n = m.length := ⟨_, rfl⟩
  obtain ⟨n, hn⟩ : ∃ n, n = l.length := ⟨_, rfl⟩
  have HNM := hide hnm
  have HN := hide hn
  rw [← hnm] at h1 hcm HPTS HCH ⊢
  rw [← hn] at h2 hc HLEG HCH ⊢
  have f1 : ¬ (20 : Int) < nm := by omega
  have f2 : ¬ (10 : Int) < n := by omega
  have HB := hide (Blk.new w 41 #[.int .i64 s.1, .int .i64 s.2, .slice A n cap])
  have HO := hide ((Only.refl [] w).alloc (.cells #[.int .i64 s.1, .int .i64 s.2, .slice A n cap] 41))
  have HC := hide (Only.refl [] (w.alloc (.cells #[.int .i64 s.1, .int .i64 s.2, .slice A n cap] 41)))
  clear hm hmf hv hfit hsf hnm hn
  unfold pt at *
  go_enter Try.func4, Try.ntmps4
  go_upto_region 5 with (go_at_call 7; refine (awake21 _).mono ?_; rintro e w1 ⟨rfl, ho⟩; (first | (have HC := hide (HC.out.trans ho)) | (have HC := hide (HC.out.drew.trans ho))); clear ho; have k0 := (HB.out.only HC.out (by simp)).cell 0; have k1 := (HB.out.only HC.out (by simp)).cell 1; have k2 := (HB.out.only HC.out (by simp)).cell 2; simp at k0 k1 k2)
  go_upto_region 6 with (go_at_call 16; refine (HCH.out _ (HO.out.trans HC.out)).mono ?_; rintro e w2 ⟨rfl, ho⟩; (first | (have HC := hide (HC.out.trans ho)) | (have HC := hide (HC.out.drew.trans ho))); clear ho; have k0 := (HB.out.only HC.out (by simp)).cell 0; have k1 := (HB.out.only HC.out (by simp)).cell 1; have k2 := (HB.out.only HC.out (by simp)).cell 2; simp at k0 k1 k2)
  go_upto_region 7 with (go_at_call 10; refine (HPTS.out _ (HO.out.trans HC.out)).mono ?_; rintro e w3 ⟨v11, rfl, hr11, ho⟩; (first | (have HC := hide (HC.out.trans ho)) | (have HC := hide (HC.out.drew.trans ho))); clear ho; have k0 := (HB.out.only HC.out (by simp)).cell 0; have k1 := (HB.out.only HC.out (by simp)).cell 1; have k2 := (HB.out.only HC.out (by simp)).cell 2; simp at k0 k1 k2; obtain ⟨A11, c11, rfl, hc11, hm11⟩ := hr11.form; have HR11 := hide hr11; rw [← HNM.out] at HR11 hc11 ⊢; clear hr11)
  go_upto_region 8 with (go_at_call 17; refine (HLEG.out _ (HO.out.trans HC.out)).mono ?_; rintro e w4 ⟨v12, rfl, hr12, ho⟩; have HR12 := hide hr12; clear hr12; (first | (have HC := hide (HC.out.trans ho)) | (have HC := hide (HC.out.drew.trans ho))); (first | (have HR11 := hide (HR11.out.only ho (by simp))) | (have HR11 := hide ((HR11.out.only (S := []) ((Only.refl [] _).drew) (by simp)).only ho (by simp)))); clear ho; have k0 := (HB.out.only HC.out (by simp)).cell 0; have k1 := (HB.out.only HC.out (by simp)).cell 1; have k2 := (HB.out.only HC.out (by simp)).cell 2; simp at k0 k1 k2)
  go_wp2_with (first
    | (go_at_call 14; refine (HMR.out _ _ HR11.out).mono ?_; rintro e wq ⟨rfl, ho⟩; (first | (have HC := hide (HC.out.trans ho)) | (have HC := hide (HC.out.drew.trans ho))); (first | (have HR11 := hide (HR11.out.only ho (by simp))) | (have HR11 := hide ((HR11.out.only (S := []) ((Only.refl [] _).drew) (by simp)).only ho (by simp)))); (first | (have HR12 := hide (HR12.out.only ho (by simp))) | (have HR12 := hide ((HR12.out.only (S := []) ((Only.refl [] _).drew) (by simp)).only ho (by simp)))); clear ho; have k0 := (HB.out.only HC.out (by simp)).cell 0; have k1 := (HB.out.only HC.out (by simp)).cell 1; have k2 := (HB.out.only HC.out (by simp)).cell 2; simp at k0 k1 k2; rw [HMV.out])
    | (go_at_call 12; refine (HOF.out _ s).mono ?_; rintro e wq ⟨rfl, ho⟩; (first | (have HC := hide (HC.out.trans ho)) | (have HC := hide (HC.out.drew.trans ho))); (first | (have HR11 := hide (HR11.out.only ho (by simp))) | (have HR11 := hide ((HR11.out.only (S := []) ((Only.refl [] _).drew) (by simp)).only ho (by simp)))); (first | (have HR12 := hide (HR12.out.only ho (by simp))) | (have HR12 := hide ((HR12.out.only (S := []) ((Only.refl [] _).drew) (by simp)).only ho (by simp)))); clear ho; have k0 := (HB.out.only HC.out (by simp)).cell 0; have k1 := (HB.out.only HC.out (by simp)).cell 1; have k2 := (HB.out.only HC.out (by simp)).cell 2; simp at k0 k1 k2)
    | (go_at_call 18; refine (HRO.out _ _ HR12.out).mono ?_; rintro e wq ⟨rfl, ho⟩; (first | (have HC := hide (HC.out.trans ho)) | (have HC := hide (HC.out.drew.trans ho))); (first | (have HR11 := hide (HR11.out.only ho (by simp))) | (have HR11 := hide ((HR11.out.only (S := []) ((Only.refl [] _).drew) (by simp)).only ho (by simp)))); (first | (have HR12 := hide (HR12.out.only ho (by simp))) | (have HR12 := hide ((HR12.out.only (S := []) ((Only.refl [] _).drew) (by simp)).only ho (by simp)))); clear ho; have k0 := (HB.out.only HC.out (by simp)).cell 0; have k1 := (HB.out.only HC.out (by simp)).cell 1; have k2 := (HB.out.only HC.out (by simp)).cell 2; simp at k0 k1 k2; rw [HRV.out]))
  go_ret
  exact ⟨rfl, HO.out.trans HC.out⟩

set_option maxRecDepth 100000 in
set_option maxHeartbeats 6400000 in
theorem skych_badmb (w : World) (mv lv : Value) (m : List (Int × Int)) (s : Int × Int) (l : List Lg) (T q : Int) (hm : RdS 2 ptc w [] mv m) (hmf : ∀ p ∈ m, Fit p) (hv : RdS 3 lgc w [] lv l) (hfit : ∀ g ∈ l, Fit3 g) (hsf : Fit s) (h1 : ¬ 20 < m.length) (h2 : ¬ 10 < l.length) (hmv : mastsV m = false) (h3 : 200 < T) (h4 : ¬ T ≤ 100000) :
    Calls Try.prog 4 #[mv, .agg #[.int .i64 s.1, .int .i64 s.2, lv], .int .i64 T, .int .i64 q] w fun e w' => e = .returned (.bool true) ∧ Only [] w w' := by
  have HPTS := hide (show ∀ W, Only [] w W → _ from fun W ho => points_any W [] mv m (hm.only ho (by simp)) (by omega))
  have HLEG := hide (show ∀ W, Only [] w W → _ from fun W ho => legs_any W [] lv s l (hv.only ho (by simp)) (by omega))
  have HMR := hide (show ∀ W v', RdS 2 ptc W [] v' m → _ from fun W v' h => masts_ref W [] v' m h (by omega))
  have HRO := hide (show ∀ W v', RdS 3 lgc W [] v' l → _ from fun W v' h => routes_ref W [] v' s l h (by omega) hfit)
  have HOF := hide (show ∀ W p, _ from fun W p => of_any W p)
  have HCH := hide (show ∀ W, Only [] w W → _ from fun W ho => changes_bad W [] [] mv lv m s l T (hm.only ho (by simp)) (hv.only ho (by simp)) (by omega) (by omega) hmf hfit hsf (.inl hmv))
  have HMV := hide hmv
  clear hmv
  obtain ⟨Am, cm, rfl, hcm, _⟩ := hm.form
  obtain ⟨A, cap, rfl, hc, _⟩ := hv.form
  obtain ⟨nm, hnm⟩ : ∃ n, n = m.length := ⟨_, rfl⟩
  obtain ⟨n, hn⟩ : ∃ n, n = l.length := ⟨_, rfl⟩
  have HNM := hide hnm
  have HN := hide hn
  rw [← hnm] at h1 hcm HPTS HCH ⊢
  rw [← hn] at h2 hc HLEG HCH ⊢
  have f1 : ¬ (20 : Int) < nm := by omega
  have f2 : ¬ (10 : Int) < n := by omega
  have HB := hide (Blk.new w 41 #[.int .i64 s.1, .int .i64 s.2, .slice A n cap])
  have HO := hide ((Only.refl [] w).alloc (.cells #[.int .i64 s.1, .int .i64 s.2, .slice A n cap] 41))
  have HC := hide (Only.refl [] (w.alloc (.cells #[.int .i64 s.1, .int .i64 s.2, .slice A n cap] 41)))
  clear hm hmf hv hfit hsf hnm hn
  unfold pt at *
  go_enter Try.func4, Try.ntmps4
  go_upto_region 5 with (go_at_call 7; refine (awake21 _).mono ?_; rintro e w1 ⟨rfl, ho⟩; (first | (have HC := hide (HC.out.trans ho)) | (have HC := hide (HC.out.drew.trans ho))); clear ho; have k0 := (HB.out.only HC.out (by simp)).cell 0; have k1 := (HB.out.only HC.out (by simp)).cell 1; have k2 := (HB.out.only HC.out (by simp)).cell 2; simp at k0 k1 k2)
  go_upto_region 6 with (go_at_call 16; refine (HCH.out _ (HO.out.trans HC.out)).mono ?_; rintro e w2 ⟨rfl, ho⟩; (first | (have HC := hide (HC.out.trans ho)) | (have HC := hide (HC.out.drew.trans ho))); clear ho; have k0 := (HB.out.only HC.out (by simp)).cell 0; have k1 := (HB.out.only HC.out (by simp)).cell 1; have k2 := (HB.out.only HC.out (by simp)).cell 2; simp at k0 k1 k2)
  go_upto_region 7 with (go_at_call 10; refine (HPTS.out _ (HO.out.trans HC.out)).mono ?_; rintro e w3 ⟨v11, rfl, hr11, ho⟩; (first | (have HC := hide (HC.out.trans ho)) | (have HC := hide (HC.out.drew.trans ho))); clear ho; have k0 := (HB.out.only HC.out (by simp)).cell 0; have k1 := (HB.out.only HC.out (by simp)).cell 1; have k2 := (HB.out.only HC.out (by simp)).cell 2; simp at k0 k1 k2; obtain ⟨A11, c11, rfl, hc11, hm11⟩ := hr11.form; have HR11 := hide hr11; rw [← HNM.out] at HR11 hc11 ⊢; clear hr11)
  go_upto_region 8 with (go_at_call 17; refine (HLEG.out _ (HO.out.trans HC.out)).mono ?_; rintro e w4 ⟨v12, rfl, hr12, ho⟩; have HR12 := hide hr12; clear hr12; (first | (have HC := hide (HC.out.trans ho)) | (have HC := hide (HC.out.drew.trans ho))); (first | (have HR11 := hide (HR11.out.only ho (by simp))) | (have HR11 := hide ((HR11.out.only (S := []) ((Only.refl [] _).drew) (by simp)).only ho (by simp)))); clear ho; have k0 := (HB.out.only HC.out (by simp)).cell 0; have k1 := (HB.out.only HC.out (by simp)).cell 1; have k2 := (HB.out.only HC.out (by simp)).cell 2; simp at k0 k1 k2)
  go_wp2_with (first
    | (go_at_call 14; refine (HMR.out _ _ HR11.out).mono ?_; rintro e wq ⟨rfl, ho⟩; (first | (have HC := hide (HC.out.trans ho)) | (have HC := hide (HC.out.drew.trans ho))); (first | (have HR11 := hide (HR11.out.only ho (by simp))) | (have HR11 := hide ((HR11.out.only (S := []) ((Only.refl [] _).drew) (by simp)).only ho (by simp)))); (first | (have HR12 := hide (HR12.out.only ho (by simp))) | (have HR12 := hide ((HR12.out.only (S := []) ((Only.refl [] _).drew) (by simp)).only ho (by simp)))); clear ho; have k0 := (HB.out.only HC.out (by simp)).cell 0; have k1 := (HB.out.only HC.out (by simp)).cell 1; have k2 := (HB.out.only HC.out (by simp)).cell 2; simp at k0 k1 k2; rw [HMV.out])
    | (go_at_call 12; refine (HOF.out _ s).mono ?_; rintro e wq ⟨rfl, ho⟩; (first | (have HC := hide (HC.out.trans ho)) | (have HC := hide (HC.out.drew.trans ho))); (first | (have HR11 := hide (HR11.out.only ho (by simp))) | (have HR11 := hide ((HR11.out.only (S := []) ((Only.refl [] _).drew) (by simp)).only ho (by simp)))); (first | (have HR12 := hide (HR12.out.only ho (by simp))) | (have HR12 := hide ((HR12.out.only (S := []) ((Only.refl [] _).drew) (by simp)).only ho (by simp)))); clear ho; have k0 := (HB.out.only HC.out (by simp)).cell 0; have k1 := (HB.out.only HC.out (by simp)).cell 1; have k2 := (HB.out.only HC.out (by simp)).cell 2; simp at k0 k1 k2)
    | (go_at_call 18; refine (HRO.out _ _ HR12.out).mono ?_; rintro e wq ⟨rfl, ho⟩; (first | (have HC := hide (HC.out.trans ho)) | (have HC := hide (HC.out.drew.trans ho))); (first | (have HR11 := hide (HR11.out.only ho (by simp))) | (have HR11 := hide ((HR11.out.only (S := []) ((Only.refl [] _).drew) (by simp)).only ho (by simp)))); (first | (have HR12 := hide (HR12.out.only ho (by simp))) | (have HR12 := hide ((HR12.out.only (S := []) ((Only.refl [] _).drew) (by simp)).only ho (by simp)))); clear ho; have k0 := (HB.out.only HC.out (by simp)).cell 0; have k1 := (HB.out.only HC.out (by simp)).cell 1; have k2 := (HB.out.only HC.out (by simp)).cell 2; simp at k0 k1 k2; rw [HRV.out]))
  go_ret
  exact ⟨rfl, HO.out.trans HC.out⟩

set_option maxRecDepth 100000 in
set_option maxHeartbeats 6400000 in
theorem skych_badra (w : World) (mv lv : Value) (m : List (Int × Int)) (s : Int × Int) (l : List Lg) (T q : Int) (hm : RdS 2 ptc w [] mv m) (hmf : ∀ p ∈ m, Fit p) (hv : RdS 3 lgc w [] lv l) (hfit : ∀ g ∈ l, Fit3 g) (hsf : Fit s) (h1 : ¬ 20 < m.length) (h2 : ¬ 10 < l.length) (hmv : mastsV m = true) (hrv : routesV s l = false) (h3 : ¬ 200 < T) :
    Calls Try.prog 4 #[mv, .agg #[.int .i64 s.1, .int .i64 s.2, lv], .int .i64 T, .int .i64 q] w fun e w' => e = .returned (.bool true) ∧ Only [] w w' := by
  have HPTS := hide (show ∀ W, Only [] w W → _ from fun W ho => points_any W [] mv m (hm.only ho (by simp)) (by omega))
  have HLEG := hide (show ∀ W, Only [] w W → _ from fun W ho => legs_any W [] lv s l (hv.only ho (by simp)) (by omega))
  have HMR := hide (show ∀ W v', RdS 2 ptc W [] v' m → _ from fun W v' h => masts_ref W [] v' m h (by omega))
  have HRO := hide (show ∀ W v', RdS 3 lgc W [] v' l → _ from fun W v' h => routes_ref W [] v' s l h (by omega) hfit)
  have HOF := hide (show ∀ W p, _ from fun W p => of_any W p)
  have HCH := hide (show ∀ W, Only [] w W → _ from fun W ho => changes_bad W [] [] mv lv m s l T (hm.only ho (by simp)) (hv.only ho (by simp)) (by omega) (by omega) hmf hfit hsf (.inr hrv))
  have HMV := hide hmv
  have HRV := hide hrv
  clear hmv hrv
  obtain ⟨Am, cm, rfl, hcm, _⟩ := hm.form
  obtain ⟨A, cap, rfl, hc, _⟩ := hv.form
  obtain ⟨nm, hnm⟩ : ∃ n, n = m.length := ⟨_, rfl⟩
  obtain ⟨n, hn⟩ : ∃ n, n = l.length := ⟨_, rfl⟩
  have HNM := hide hnm
  have HN := hide hn
  rw [← hnm] at h1 hcm HPTS HCH ⊢
  rw [← hn] at h2 hc HLEG HCH ⊢
  have f1 : ¬ (20 : Int) < nm := by omega
  have f2 : ¬ (10 : Int) < n := by omega
  have HB := hide (Blk.new w 41 #[.int .i64 s.1, .int .i64 s.2, .slice A n cap])
  have HO := hide ((Only.refl [] w).alloc (.cells #[.int .i64 s.1, .int .i64 s.2, .slice A n cap] 41))
  have HC := hide (Only.refl [] (w.alloc (.cells #[.int .i64 s.1, .int .i64 s.2, .slice A n cap] 41)))
  clear hm hmf hv hfit hsf hnm hn
  unfold pt at *
  go_enter Try.func4, Try.ntmps4
  go_upto_region 5 with (go_at_call 7; refine (awake21 _).mono ?_; rintro e w1 ⟨rfl, ho⟩; (first | (have HC := hide (HC.out.trans ho)) | (have HC := hide (HC.out.drew.trans ho))); clear ho; have k0 := (HB.out.only HC.out (by simp)).cell 0; have k1 := (HB.out.only HC.out (by simp)).cell 1; have k2 := (HB.out.only HC.out (by simp)).cell 2; simp at k0 k1 k2)
  go_upto_region 6 with (go_at_call 16; refine (HCH.out _ (HO.out.trans HC.out)).mono ?_; rintro e w2 ⟨rfl, ho⟩; (first | (have HC := hide (HC.out.trans ho)) | (have HC := hide (HC.out.drew.trans ho))); clear ho; have k0 := (HB.out.only HC.out (by simp)).cell 0; have k1 := (HB.out.only HC.out (by simp)).cell 1; have k2 := (HB.out.only HC.out (by simp)).cell 2; simp at k0 k1 k2)
  go_upto_region 7 with (go_at_call 10; refine (HPTS.out _ (HO.out.trans HC.out)).mono ?_; rintro e w3 ⟨v11, rfl, hr11, ho⟩; (first | (have HC := hide (HC.out.trans ho)) | (have HC := hide (HC.out.drew.trans ho))); clear ho; have k0 := (HB.out.only HC.out (by simp)).cell 0; have k1 := (HB.out.only HC.out (by simp)).cell 1; have k2 := (HB.out.only HC.out (by simp)).cell 2; simp at k0 k1 k2; obtain ⟨A11, c11, rfl, hc11, hm11⟩ := hr11.form; have HR11 := hide hr11; rw [← HNM.out] at HR11 hc11 ⊢; clear hr11)
  go_upto_region 8 with (go_at_call 17; refine (HLEG.out _ (HO.out.trans HC.out)).mono ?_; rintro e w4 ⟨v12, rfl, hr12, ho⟩; have HR12 := hide hr12; clear hr12; (first | (have HC := hide (HC.out.trans ho)) | (have HC := hide (HC.out.drew.trans ho))); (first | (have HR11 := hide (HR11.out.only ho (by simp))) | (have HR11 := hide ((HR11.out.only (S := []) ((Only.refl [] _).drew) (by simp)).only ho (by simp)))); clear ho; have k0 := (HB.out.only HC.out (by simp)).cell 0; have k1 := (HB.out.only HC.out (by simp)).cell 1; have k2 := (HB.out.only HC.out (by simp)).cell 2; simp at k0 k1 k2)
  go_wp2_with (first
    | (go_at_call 14; refine (HMR.out _ _ HR11.out).mono ?_; rintro e wq ⟨rfl, ho⟩; (first | (have HC := hide (HC.out.trans ho)) | (have HC := hide (HC.out.drew.trans ho))); (first | (have HR11 := hide (HR11.out.only ho (by simp))) | (have HR11 := hide ((HR11.out.only (S := []) ((Only.refl [] _).drew) (by simp)).only ho (by simp)))); (first | (have HR12 := hide (HR12.out.only ho (by simp))) | (have HR12 := hide ((HR12.out.only (S := []) ((Only.refl [] _).drew) (by simp)).only ho (by simp)))); clear ho; have k0 := (HB.out.only HC.out (by simp)).cell 0; have k1 := (HB.out.only HC.out (by simp)).cell 1; have k2 := (HB.out.only HC.out (by simp)).cell 2; simp at k0 k1 k2; rw [HMV.out])
    | (go_at_call 12; refine (HOF.out _ s).mono ?_; rintro e wq ⟨rfl, ho⟩; (first | (have HC := hide (HC.out.trans ho)) | (have HC := hide (HC.out.drew.trans ho))); (first | (have HR11 := hide (HR11.out.only ho (by simp))) | (have HR11 := hide ((HR11.out.only (S := []) ((Only.refl [] _).drew) (by simp)).only ho (by simp)))); (first | (have HR12 := hide (HR12.out.only ho (by simp))) | (have HR12 := hide ((HR12.out.only (S := []) ((Only.refl [] _).drew) (by simp)).only ho (by simp)))); clear ho; have k0 := (HB.out.only HC.out (by simp)).cell 0; have k1 := (HB.out.only HC.out (by simp)).cell 1; have k2 := (HB.out.only HC.out (by simp)).cell 2; simp at k0 k1 k2)
    | (go_at_call 18; refine (HRO.out _ _ HR12.out).mono ?_; rintro e wq ⟨rfl, ho⟩; (first | (have HC := hide (HC.out.trans ho)) | (have HC := hide (HC.out.drew.trans ho))); (first | (have HR11 := hide (HR11.out.only ho (by simp))) | (have HR11 := hide ((HR11.out.only (S := []) ((Only.refl [] _).drew) (by simp)).only ho (by simp)))); (first | (have HR12 := hide (HR12.out.only ho (by simp))) | (have HR12 := hide ((HR12.out.only (S := []) ((Only.refl [] _).drew) (by simp)).only ho (by simp)))); clear ho; have k0 := (HB.out.only HC.out (by simp)).cell 0; have k1 := (HB.out.only HC.out (by simp)).cell 1; have k2 := (HB.out.only HC.out (by simp)).cell 2; simp at k0 k1 k2; rw [HRV.out]))
  go_ret
  exact ⟨rfl, HO.out.trans HC.out⟩

set_option maxRecDepth 100000 in
set_option maxHeartbeats 6400000 in
theorem skych_badrb (w : World) (mv lv : Value) (m : List (Int × Int)) (s : Int × Int) (l : List Lg) (T q : Int) (hm : RdS 2 ptc w [] mv m) (hmf : ∀ p ∈ m, Fit p) (hv : RdS 3 lgc w [] lv l) (hfit : ∀ g ∈ l, Fit3 g) (hsf : Fit s) (h1 : ¬ 20 < m.length) (h2 : ¬ 10 < l.length) (hmv : mastsV m = true) (hrv : routesV s l = false) (h3 : 200 < T) (h4 : ¬ T ≤ 100000) :
    Calls Try.prog 4 #[mv, .agg #[.int .i64 s.1, .int .i64 s.2, lv], .int .i64 T, .int .i64 q] w fun e w' => e = .returned (.bool true) ∧ Only [] w w' := by
  have HPTS := hide (show ∀ W, Only [] w W → _ from fun W ho => points_any W [] mv m (hm.only ho (by simp)) (by omega))
  have HLEG := hide (show ∀ W, Only [] w W → _ from fun W ho => legs_any W [] lv s l (hv.only ho (by simp)) (by omega))
  have HMR := hide (show ∀ W v', RdS 2 ptc W [] v' m → _ from fun W v' h => masts_ref W [] v' m h (by omega))
  have HRO := hide (show ∀ W v', RdS 3 lgc W [] v' l → _ from fun W v' h => routes_ref W [] v' s l h (by omega) hfit)
  have HOF := hide (show ∀ W p, _ from fun W p => of_any W p)
  have HCH := hide (show ∀ W, Only [] w W → _ from fun W ho => changes_bad W [] [] mv lv m s l T (hm.only ho (by simp)) (hv.only ho (by simp)) (by omega) (by omega) hmf hfit hsf (.inr hrv))
  have HMV := hide hmv
  have HRV := hide hrv
  clear hmv hrv
  obtain ⟨Am, cm, rfl, hcm, _⟩ := hm.form
  obtain ⟨A, cap, rfl, hc, _⟩ := hv.form
  obtain ⟨nm, hnm⟩ : ∃ n, n = m.length := ⟨_, rfl⟩
  obtain ⟨n, hn⟩ : ∃ n, n = l.length := ⟨_, rfl⟩
  have HNM := hide hnm
  have HN := hide hn
  rw [← hnm] at h1 hcm HPTS HCH ⊢
  rw [← hn] at h2 hc HLEG HCH ⊢
  have f1 : ¬ (20 : Int) < nm := by omega
  have f2 : ¬ (10 : Int) < n := by omega
  have HB := hide (Blk.new w 41 #[.int .i64 s.1, .int .i64 s.2, .slice A n cap])
  have HO := hide ((Only.refl [] w).alloc (.cells #[.int .i64 s.1, .int .i64 s.2, .slice A n cap] 41))
  have HC := hide (Only.refl [] (w.alloc (.cells #[.int .i64 s.1, .int .i64 s.2, .slice A n cap] 41)))
  clear hm hmf hv hfit hsf hnm hn
  unfold pt at *
  go_enter Try.func4, Try.ntmps4
  go_upto_region 5 with (go_at_call 7; refine (awake21 _).mono ?_; rintro e w1 ⟨rfl, ho⟩; (first | (have HC := hide (HC.out.trans ho)) | (have HC := hide (HC.out.drew.trans ho))); clear ho; have k0 := (HB.out.only HC.out (by simp)).cell 0; have k1 := (HB.out.only HC.out (by simp)).cell 1; have k2 := (HB.out.only HC.out (by simp)).cell 2; simp at k0 k1 k2)
  go_upto_region 6 with (go_at_call 16; refine (HCH.out _ (HO.out.trans HC.out)).mono ?_; rintro e w2 ⟨rfl, ho⟩; (first | (have HC := hide (HC.out.trans ho)) | (have HC := hide (HC.out.drew.trans ho))); clear ho; have k0 := (HB.out.only HC.out (by simp)).cell 0; have k1 := (HB.out.only HC.out (by simp)).cell 1; have k2 := (HB.out.only HC.out (by simp)).cell 2; simp at k0 k1 k2)
  go_upto_region 7 with (go_at_call 10; refine (HPTS.out _ (HO.out.trans HC.out)).mono ?_; rintro e w3 ⟨v11, rfl, hr11, ho⟩; (first | (have HC := hide (HC.out.trans ho)) | (have HC := hide (HC.out.drew.trans ho))); clear ho; have k0 := (HB.out.only HC.out (by simp)).cell 0; have k1 := (HB.out.only HC.out (by simp)).cell 1; have k2 := (HB.out.only HC.out (by simp)).cell 2; simp at k0 k1 k2; obtain ⟨A11, c11, rfl, hc11, hm11⟩ := hr11.form; have HR11 := hide hr11; rw [← HNM.out] at HR11 hc11 ⊢; clear hr11)
  go_upto_region 8 with (go_at_call 17; refine (HLEG.out _ (HO.out.trans HC.out)).mono ?_; rintro e w4 ⟨v12, rfl, hr12, ho⟩; have HR12 := hide hr12; clear hr12; (first | (have HC := hide (HC.out.trans ho)) | (have HC := hide (HC.out.drew.trans ho))); (first | (have HR11 := hide (HR11.out.only ho (by simp))) | (have HR11 := hide ((HR11.out.only (S := []) ((Only.refl [] _).drew) (by simp)).only ho (by simp)))); clear ho; have k0 := (HB.out.only HC.out (by simp)).cell 0; have k1 := (HB.out.only HC.out (by simp)).cell 1; have k2 := (HB.out.only HC.out (by simp)).cell 2; simp at k0 k1 k2)
  go_wp2_with (first
    | (go_at_call 14; refine (HMR.out _ _ HR11.out).mono ?_; rintro e wq ⟨rfl, ho⟩; (first | (have HC := hide (HC.out.trans ho)) | (have HC := hide (HC.out.drew.trans ho))); (first | (have HR11 := hide (HR11.out.only ho (by simp))) | (have HR11 := hide ((HR11.out.only (S := []) ((Only.refl [] _).drew) (by simp)).only ho (by simp)))); (first | (have HR12 := hide (HR12.out.only ho (by simp))) | (have HR12 := hide ((HR12.out.only (S := []) ((Only.refl [] _).drew) (by simp)).only ho (by simp)))); clear ho; have k0 := (HB.out.only HC.out (by simp)).cell 0; have k1 := (HB.out.only HC.out (by simp)).cell 1; have k2 := (HB.out.only HC.out (by simp)).cell 2; simp at k0 k1 k2; rw [HMV.out])
    | (go_at_call 12; refine (HOF.out _ s).mono ?_; rintro e wq ⟨rfl, ho⟩; (first | (have HC := hide (HC.out.trans ho)) | (have HC := hide (HC.out.drew.trans ho))); (first | (have HR11 := hide (HR11.out.only ho (by simp))) | (have HR11 := hide ((HR11.out.only (S := []) ((Only.refl [] _).drew) (by simp)).only ho (by simp)))); (first | (have HR12 := hide (HR12.out.only ho (by simp))) | (have HR12 := hide ((HR12.out.only (S := []) ((Only.refl [] _).drew) (by simp)).only ho (by simp)))); clear ho; have k0 := (HB.out.only HC.out (by simp)).cell 0; have k1 := (HB.out.only HC.out (by simp)).cell 1; have k2 := (HB.out.only HC.out (by simp)).cell 2; simp at k0 k1 k2)
    | (go_at_call 18; refine (HRO.out _ _ HR12.out).mono ?_; rintro e wq ⟨rfl, ho⟩; (first | (have HC := hide (HC.out.trans ho)) | (have HC := hide (HC.out.drew.trans ho))); (first | (have HR11 := hide (HR11.out.only ho (by simp))) | (have HR11 := hide ((HR11.out.only (S := []) ((Only.refl [] _).drew) (by simp)).only ho (by simp)))); (first | (have HR12 := hide (HR12.out.only ho (by simp))) | (have HR12 := hide ((HR12.out.only (S := []) ((Only.refl [] _).drew) (by simp)).only ho (by simp)))); clear ho; have k0 := (HB.out.only HC.out (by simp)).cell 0; have k1 := (HB.out.only HC.out (by simp)).cell 1; have k2 := (HB.out.only HC.out (by simp)).cell 2; simp at k0 k1 k2; rw [HRV.out]))
  go_ret
  exact ⟨rfl, HO.out.trans HC.out⟩

set_option maxRecDepth 100000 in
set_option maxHeartbeats 6400000 in
theorem skych_argn (w : World) (mv lv : Value) (m : List (Int × Int)) (s : Int × Int) (l : List Lg) (T q : Int) (hm : RdS 2 ptc w [] mv m) (hmf : ∀ p ∈ m, Fit p) (hv : RdS 3 lgc w [] lv l) (hfit : ∀ g ∈ l, Fit3 g) (hsf : Fit s) (h1 : ¬ 20 < m.length) (h2 : ¬ 10 < l.length) (hmv : mastsV m = true) (hrv : routesV s l = true) (h3 : T < 0) :
    Calls Try.prog 4 #[mv, .agg #[.int .i64 s.1, .int .i64 s.2, lv], .int .i64 T, .int .i64 q] w fun e w' => e = .returned (.bool true) ∧ Only [] w w' := by
  have HPTS := hide (show ∀ W, Only [] w W → _ from fun W ho => points_any W [] mv m (hm.only ho (by simp)) (by omega))
  have HLEG := hide (show ∀ W, Only [] w W → _ from fun W ho => legs_any W [] lv s l (hv.only ho (by simp)) (by omega))
  have HMR := hide (show ∀ W v', RdS 2 ptc W [] v' m → _ from fun W v' h => masts_ref W [] v' m h (by omega))
  have HRO := hide (show ∀ W v', RdS 3 lgc W [] v' l → _ from fun W v' h => routes_ref W [] v' s l h (by omega) hfit)
  have HOF := hide (show ∀ W p, _ from fun W p => of_any W p)
  have HCH := hide (show ∀ W, Only [] w W → _ from fun W ho => changes_arg W [] [] mv lv m s l T (hm.only ho (by simp)) (hv.only ho (by simp)) (by omega) (by omega) hmf hfit hsf hmv hrv (by omega))
  have HMV := hide hmv
  have HRV := hide hrv
  clear hmv hrv
  obtain ⟨Am, cm, rfl, hcm, _⟩ := hm.form
  obtain ⟨A, cap, rfl, hc, _⟩ := hv.form
  obtain ⟨nm, hnm⟩ : ∃ n, n = m.length := ⟨_, rfl⟩
  obtain ⟨n, hn⟩ : ∃ n, n = l.length := ⟨_, rfl⟩
  have HNM := hide hnm
  have HN := hide hn
  rw [← hnm] at h1 hcm HPTS HCH ⊢
  rw [← hn] at h2 hc HLEG HCH ⊢
  have f1 : ¬ (20 : Int) < nm := by omega
  have f2 : ¬ (10 : Int) < n := by omega
  have f3 : ¬ 200 < T := by omega
  have HB := hide (Blk.new w 41 #[.int .i64 s.1, .int .i64 s.2, .slice A n cap])
  have HO := hide ((Only.refl [] w).alloc (.cells #[.int .i64 s.1, .int .i64 s.2, .slice A n cap] 41))
  have HC := hide (Only.refl [] (w.alloc (.cells #[.int .i64 s.1, .int .i64 s.2, .slice A n cap] 41)))
  clear hm hmf hv hfit hsf hnm hn
  unfold pt at *
  go_enter Try.func4, Try.ntmps4
  go_upto_region 5 with (go_at_call 7; refine (awake21 _).mono ?_; rintro e w1 ⟨rfl, ho⟩; (first | (have HC := hide (HC.out.trans ho)) | (have HC := hide (HC.out.drew.trans ho))); clear ho; have k0 := (HB.out.only HC.out (by simp)).cell 0; have k1 := (HB.out.only HC.out (by simp)).cell 1; have k2 := (HB.out.only HC.out (by simp)).cell 2; simp at k0 k1 k2)
  go_upto_region 6 with (go_at_call 16; refine (HCH.out _ (HO.out.trans HC.out)).mono ?_; rintro e w2 ⟨rfl, ho⟩; (first | (have HC := hide (HC.out.trans ho)) | (have HC := hide (HC.out.drew.trans ho))); clear ho; have k0 := (HB.out.only HC.out (by simp)).cell 0; have k1 := (HB.out.only HC.out (by simp)).cell 1; have k2 := (HB.out.only HC.out (by simp)).cell 2; simp at k0 k1 k2)
  go_upto_region 7 with (go_at_call 10; refine (HPTS.out _ (HO.out.trans HC.out)).mono ?_; rintro e w3 ⟨v11, rfl, hr11, ho⟩; (first | (have HC := hide (HC.out.trans ho)) | (have HC := hide (HC.out.drew.trans ho))); clear ho; have k0 := (HB.out.only HC.out (by simp)).cell 0; have k1 := (HB.out.only HC.out (by simp)).cell 1; have k2 := (HB.out.only HC.out (by simp)).cell 2; simp at k0 k1 k2; obtain ⟨A11, c11, rfl, hc11, hm11⟩ := hr11.form; have HR11 := hide hr11; rw [← HNM.out] at HR11 hc11 ⊢; clear hr11)
  go_upto_region 8 with (go_at_call 17; refine (HLEG.out _ (HO.out.trans HC.out)).mono ?_; rintro e w4 ⟨v12, rfl, hr12, ho⟩; have HR12 := hide hr12; clear hr12; (first | (have HC := hide (HC.out.trans ho)) | (have HC := hide (HC.out.drew.trans ho))); (first | (have HR11 := hide (HR11.out.only ho (by simp))) | (have HR11 := hide ((HR11.out.only (S := []) ((Only.refl [] _).drew) (by simp)).only ho (by simp)))); clear ho; have k0 := (HB.out.only HC.out (by simp)).cell 0; have k1 := (HB.out.only HC.out (by simp)).cell 1; have k2 := (HB.out.only HC.out (by simp)).cell 2; simp at k0 k1 k2)
  go_wp2_with (first
    | (go_at_call 14; refine (HMR.out _ _ HR11.out).mono ?_; rintro e wq ⟨rfl, ho⟩; (first | (have HC := hide (HC.out.trans ho)) | (have HC := hide (HC.out.drew.trans ho))); (first | (have HR11 := hide (HR11.out.only ho (by simp))) | (have HR11 := hide ((HR11.out.only (S := []) ((Only.refl [] _).drew) (by simp)).only ho (by simp)))); (first | (have HR12 := hide (HR12.out.only ho (by simp))) | (have HR12 := hide ((HR12.out.only (S := []) ((Only.refl [] _).drew) (by simp)).only ho (by simp)))); clear ho; have k0 := (HB.out.only HC.out (by simp)).cell 0; have k1 := (HB.out.only HC.out (by simp)).cell 1; have k2 := (HB.out.only HC.out (by simp)).cell 2; simp at k0 k1 k2; rw [HMV.out])
    | (go_at_call 12; refine (HOF.out _ s).mono ?_; rintro e wq ⟨rfl, ho⟩; (first | (have HC := hide (HC.out.trans ho)) | (have HC := hide (HC.out.drew.trans ho))); (first | (have HR11 := hide (HR11.out.only ho (by simp))) | (have HR11 := hide ((HR11.out.only (S := []) ((Only.refl [] _).drew) (by simp)).only ho (by simp)))); (first | (have HR12 := hide (HR12.out.only ho (by simp))) | (have HR12 := hide ((HR12.out.only (S := []) ((Only.refl [] _).drew) (by simp)).only ho (by simp)))); clear ho; have k0 := (HB.out.only HC.out (by simp)).cell 0; have k1 := (HB.out.only HC.out (by simp)).cell 1; have k2 := (HB.out.only HC.out (by simp)).cell 2; simp at k0 k1 k2)
    | (go_at_call 18; refine (HRO.out _ _ HR12.out).mono ?_; rintro e wq ⟨rfl, ho⟩; (first | (have HC := hide (HC.out.trans ho)) | (have HC := hide (HC.out.drew.trans ho))); (first | (have HR11 := hide (HR11.out.only ho (by simp))) | (have HR11 := hide ((HR11.out.only (S := []) ((Only.refl [] _).drew) (by simp)).only ho (by simp)))); (first | (have HR12 := hide (HR12.out.only ho (by simp))) | (have HR12 := hide ((HR12.out.only (S := []) ((Only.refl [] _).drew) (by simp)).only ho (by simp)))); clear ho; have k0 := (HB.out.only HC.out (by simp)).cell 0; have k1 := (HB.out.only HC.out (by simp)).cell 1; have k2 := (HB.out.only HC.out (by simp)).cell 2; simp at k0 k1 k2; rw [HRV.out]))
  go_ret
  exact ⟨rfl, HO.out.trans HC.out⟩

set_option maxRecDepth 100000 in
set_option maxHeartbeats 6400000 in
theorem skych_argp (w : World) (mv lv : Value) (m : List (Int × Int)) (s : Int × Int) (l : List Lg) (T q : Int) (hm : RdS 2 ptc w [] mv m) (hmf : ∀ p ∈ m, Fit p) (hv : RdS 3 lgc w [] lv l) (hfit : ∀ g ∈ l, Fit3 g) (hsf : Fit s) (h1 : ¬ 20 < m.length) (h2 : ¬ 10 < l.length) (hmv : mastsV m = true) (hrv : routesV s l = true) (h3 : 100000 < T) :
    Calls Try.prog 4 #[mv, .agg #[.int .i64 s.1, .int .i64 s.2, lv], .int .i64 T, .int .i64 q] w fun e w' => e = .returned (.bool true) ∧ Only [] w w' := by
  have HPTS := hide (show ∀ W, Only [] w W → _ from fun W ho => points_any W [] mv m (hm.only ho (by simp)) (by omega))
  have HLEG := hide (show ∀ W, Only [] w W → _ from fun W ho => legs_any W [] lv s l (hv.only ho (by simp)) (by omega))
  have HMR := hide (show ∀ W v', RdS 2 ptc W [] v' m → _ from fun W v' h => masts_ref W [] v' m h (by omega))
  have HRO := hide (show ∀ W v', RdS 3 lgc W [] v' l → _ from fun W v' h => routes_ref W [] v' s l h (by omega) hfit)
  have HOF := hide (show ∀ W p, _ from fun W p => of_any W p)
  have HCH := hide (show ∀ W, Only [] w W → _ from fun W ho => changes_arg W [] [] mv lv m s l T (hm.only ho (by simp)) (hv.only ho (by simp)) (by omega) (by omega) hmf hfit hsf hmv hrv (by omega))
  have HMV := hide hmv
  have HRV := hide hrv
  clear hmv hrv
  obtain ⟨Am, cm, rfl, hcm, _⟩ := hm.form
  obtain ⟨A, cap, rfl, hc, _⟩ := hv.form
  obtain ⟨nm, hnm⟩ : ∃ n, n = m.length := ⟨_, rfl⟩
  obtain ⟨n, hn⟩ : ∃ n, n = l.length := ⟨_, rfl⟩
  have HNM := hide hnm
  have HN := hide hn
  rw [← hnm] at h1 hcm HPTS HCH ⊢
  rw [← hn] at h2 hc HLEG HCH ⊢
  have f1 : ¬ (20 : Int) < nm := by omega
  have f2 : ¬ (10 : Int) < n := by omega
  have f3 : 200 < T := by omega
  have f4 : ¬ T ≤ 100000 := by omega
  have f5 : ¬ T < 0 := by omega
  have HB := hide (Blk.new w 41 #[.int .i64 s.1, .int .i64 s.2, .slice A n cap])
  have HO := hide ((Only.refl [] w).alloc (.cells #[.int .i64 s.1, .int .i64 s.2, .slice A n cap] 41))
  have HC := hide (Only.refl [] (w.alloc (.cells #[.int .i64 s.1, .int .i64 s.2, .slice A n cap] 41)))
  clear hm hmf hv hfit hsf hnm hn
  unfold pt at *
  go_enter Try.func4, Try.ntmps4
  go_upto_region 5 with (go_at_call 7; refine (awake21 _).mono ?_; rintro e w1 ⟨rfl, ho⟩; (first | (have HC := hide (HC.out.trans ho)) | (have HC := hide (HC.out.drew.trans ho))); clear ho; have k0 := (HB.out.only HC.out (by simp)).cell 0; have k1 := (HB.out.only HC.out (by simp)).cell 1; have k2 := (HB.out.only HC.out (by simp)).cell 2; simp at k0 k1 k2)
  go_upto_region 6 with (go_at_call 16; refine (HCH.out _ (HO.out.trans HC.out)).mono ?_; rintro e w2 ⟨rfl, ho⟩; (first | (have HC := hide (HC.out.trans ho)) | (have HC := hide (HC.out.drew.trans ho))); clear ho; have k0 := (HB.out.only HC.out (by simp)).cell 0; have k1 := (HB.out.only HC.out (by simp)).cell 1; have k2 := (HB.out.only HC.out (by simp)).cell 2; simp at k0 k1 k2)
  go_upto_region 7 with (go_at_call 10; refine (HPTS.out _ (HO.out.trans HC.out)).mono ?_; rintro e w3 ⟨v11, rfl, hr11, ho⟩; (first | (have HC := hide (HC.out.trans ho)) | (have HC := hide (HC.out.drew.trans ho))); clear ho; have k0 := (HB.out.only HC.out (by simp)).cell 0; have k1 := (HB.out.only HC.out (by simp)).cell 1; have k2 := (HB.out.only HC.out (by simp)).cell 2; simp at k0 k1 k2; obtain ⟨A11, c11, rfl, hc11, hm11⟩ := hr11.form; have HR11 := hide hr11; rw [← HNM.out] at HR11 hc11 ⊢; clear hr11)
  go_upto_region 8 with (go_at_call 17; refine (HLEG.out _ (HO.out.trans HC.out)).mono ?_; rintro e w4 ⟨v12, rfl, hr12, ho⟩; have HR12 := hide hr12; clear hr12; (first | (have HC := hide (HC.out.trans ho)) | (have HC := hide (HC.out.drew.trans ho))); (first | (have HR11 := hide (HR11.out.only ho (by simp))) | (have HR11 := hide ((HR11.out.only (S := []) ((Only.refl [] _).drew) (by simp)).only ho (by simp)))); clear ho; have k0 := (HB.out.only HC.out (by simp)).cell 0; have k1 := (HB.out.only HC.out (by simp)).cell 1; have k2 := (HB.out.only HC.out (by simp)).cell 2; simp at k0 k1 k2)
  go_wp2_with (first
    | (go_at_call 14; refine (HMR.out _ _ HR11.out).mono ?_; rintro e wq ⟨rfl, ho⟩; (first | (have HC := hide (HC.out.trans ho)) | (have HC := hide (HC.out.drew.trans ho))); (first | (have HR11 := hide (HR11.out.only ho (by simp))) | (have HR11 := hide ((HR11.out.only (S := []) ((Only.refl [] _).drew) (by simp)).only ho (by simp)))); (first | (have HR12 := hide (HR12.out.only ho (by simp))) | (have HR12 := hide ((HR12.out.only (S := []) ((Only.refl [] _).drew) (by simp)).only ho (by simp)))); clear ho; have k0 := (HB.out.only HC.out (by simp)).cell 0; have k1 := (HB.out.only HC.out (by simp)).cell 1; have k2 := (HB.out.only HC.out (by simp)).cell 2; simp at k0 k1 k2; rw [HMV.out])
    | (go_at_call 12; refine (HOF.out _ s).mono ?_; rintro e wq ⟨rfl, ho⟩; (first | (have HC := hide (HC.out.trans ho)) | (have HC := hide (HC.out.drew.trans ho))); (first | (have HR11 := hide (HR11.out.only ho (by simp))) | (have HR11 := hide ((HR11.out.only (S := []) ((Only.refl [] _).drew) (by simp)).only ho (by simp)))); (first | (have HR12 := hide (HR12.out.only ho (by simp))) | (have HR12 := hide ((HR12.out.only (S := []) ((Only.refl [] _).drew) (by simp)).only ho (by simp)))); clear ho; have k0 := (HB.out.only HC.out (by simp)).cell 0; have k1 := (HB.out.only HC.out (by simp)).cell 1; have k2 := (HB.out.only HC.out (by simp)).cell 2; simp at k0 k1 k2)
    | (go_at_call 18; refine (HRO.out _ _ HR12.out).mono ?_; rintro e wq ⟨rfl, ho⟩; (first | (have HC := hide (HC.out.trans ho)) | (have HC := hide (HC.out.drew.trans ho))); (first | (have HR11 := hide (HR11.out.only ho (by simp))) | (have HR11 := hide ((HR11.out.only (S := []) ((Only.refl [] _).drew) (by simp)).only ho (by simp)))); (first | (have HR12 := hide (HR12.out.only ho (by simp))) | (have HR12 := hide ((HR12.out.only (S := []) ((Only.refl [] _).drew) (by simp)).only ho (by simp)))); clear ho; have k0 := (HB.out.only HC.out (by simp)).cell 0; have k1 := (HB.out.only HC.out (by simp)).cell 1; have k2 := (HB.out.only HC.out (by simp)).cell 2; simp at k0 k1 k2; rw [HRV.out]))
  go_ret
  exact ⟨rfl, HO.out.trans HC.out⟩

end Go.Proofs.Ytkihjgcjapkgpaa

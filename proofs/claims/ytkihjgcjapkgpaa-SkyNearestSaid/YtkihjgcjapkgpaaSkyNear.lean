/-
  SkyNearest: of any masts and points which is the nearest one, and how far two points are, are what the chapter says, or there is its error. Proved for every input; no condition.
-/
import Derived.Test.YtkihjgcjapkgpaaRows
import Derived.Test.YtkihjgcjapkgpaaSkyO
namespace Go.Proofs.Ytkihjgcjapkgpaa
open Go.RowKit Go.Deep Go.ChangeShapes Go.WideShapes Go.ChangeAt

set_option maxRecDepth 100000 in
theorem near_long (w : World) (v : Value) (l : List (Int × Int)) (p q : Int × Int) (hv : RdS 2 ptc w [] v l) (hl : 70 < l.length) :
    Calls Try.prog 3 #[v, pt p, pt q] w fun e w' => e = .returned (.bool true) ∧ Only [] w w' := by
  obtain ⟨A, cap, rfl, hc, hm⟩ := hv.form
  clear hv
  generalize l.length = n at *
  have hl' : (70 : Int) < n := by omega
  have HO := hide (((Only.refl [] w).alloc (.cells #[.int .i64 p.1, .int .i64 p.2] 24)).alloc (.cells #[.int .i64 q.1, .int .i64 q.2] 24))
  unfold pt
  go_enter Try.func3, Try.ntmps3
  go_wp2_with (go_at_call 7; refine (awake21 _).mono ?_; rintro e w1 ⟨rfl, ho⟩; have HO1 := hide (HO.out.trans ho); clear ho)
  go_ret
  exact ⟨rfl, HO1.out⟩

set_option maxRecDepth 100000 in
set_option maxHeartbeats 6400000 in
theorem near_walk (w : World) (v : Value) (l : List (Int × Int)) (p q : Int × Int) (hv : RdS 2 ptc w [] v l) (hl : l.length ≤ 70) (hfit : ∀ x ∈ l, Fit x) (hp : Fit p) (hq : Fit q) :
    Calls Try.prog 3 #[v, pt p, pt q] w fun e w' => e = .returned (.bool true) ∧ Only [] w w' := by
  have HNE := hide (show ∀ W, Only [] w W → _ from fun W ho => Nearest_any W [] v l p (hv.only ho (by simp)) (by omega) hfit hp)
  have HFA := hide (show ∀ W, _ from fun W => far_any W p q hp hq)
  have HPS := hide (show ∀ W, Only [] w W → _ from fun W ho => points_any W [] v l (hv.only ho (by simp)) (by omega))
  have HMA := hide (show ∀ W v', RdS 2 ptc W [] v' l → _ from fun W v' h => masts_ref W [] v' l h (by omega))
  have HNR := hide (show ∀ W v', RdS 2 ptc W [] v' l → mastsV l = true → okP p = true → _ from fun W v' h hm hk => nearest_ref W [] v' l p h (by omega) (masts_mem hm).1 hk (by have := (masts_mem hm).2.1; omega))
  have HRR := hide (show ∀ W x, _ from fun W x => refright_any W x)
  have HOF := hide (show ∀ W x, _ from fun W x => of_any W x)
  have HFR := hide (show ∀ W, okP p = true → okP q = true → _ from fun W h1 h2 => reffar_any W p q (by have := okP_bd h1; omega) (by have := okP_bd h1; omega) (by have := okP_bd h2; omega) (by have := okP_bd h2; omega))
  obtain ⟨A, cap, rfl, hc, hm⟩ := hv.form
  have hl' : ¬ (70 : Int) < l.length := by omega
  clear hv hl hfit hp hq
  have HBP := hide ((Blk.new w 24 #[.int .i64 p.1, .int .i64 p.2]).alloc (.cells #[.int .i64 q.1, .int .i64 q.2] 24))
  have hQ := Blk.new (w.alloc (.cells #[.int .i64 p.1, .int .i64 p.2] 24)) 24 #[.int .i64 q.1, .int .i64 q.2]
  rw [World.size_alloc] at hQ
  have HBQ := hide hQ
  have HO := hide (((Only.refl [] w).alloc (.cells #[.int .i64 p.1, .int .i64 p.2] 24)).alloc (.cells #[.int .i64 q.1, .int .i64 q.2] 24))
  have HC := hide (Only.refl [] ((w.alloc (.cells #[.int .i64 p.1, .int .i64 p.2] 24)).alloc (.cells #[.int .i64 q.1, .int .i64 q.2] 24)))
  clear hQ
  cases hpv : okP p <;> cases hqv : okP q <;> cases hmv : mastsV l
  all_goals
    simp only [hpv, hqv, hmv, Bool.and_true, Bool.and_false, Bool.true_and, Bool.false_and, if_true, if_false, Bool.false_eq_true] at HNE HFA
    have HPV := hide hpv
    have HQV := hide hqv
    have HMV := hide hmv
    clear hpv hqv hmv
    unfold pt at *
    go_enter Try.func3, Try.ntmps3
    go_upto_region 8 with (first
      | (go_at_call 7; refine (awake21 _).mono ?_; rintro e w1 ⟨rfl, ho⟩; (first | (have HC := hide (HC.out.trans ho)) | (have HC := hide (HC.out.drew.trans ho))); have hBP := HBP.out.only HC.out (by simp); have hBQ := HBQ.out.only HC.out (by simp); have kp0 := hBP.cell 0; have kp1 := hBP.cell 1; have kq0 := hBQ.cell 0; have kq1 := hBQ.cell 1; simp at kp0 kp1 kq0 kq1; clear hBP hBQ ho)
      | (go_at_call 8; refine (HNE.out _ (HO.out.trans HC.out)).mono ?_; rintro e w2 ⟨rfl, ho⟩; (first | (have HC := hide (HC.out.trans ho)) | (have HC := hide (HC.out.drew.trans ho))); have hBP := HBP.out.only HC.out (by simp); have hBQ := HBQ.out.only HC.out (by simp); have kp0 := hBP.cell 0; have kp1 := hBP.cell 1; have kq0 := hBQ.cell 0; have kq1 := hBQ.cell 1; simp at kp0 kp1 kq0 kq1; clear hBP hBQ ho)
      | (go_at_call 9; refine (HFA.out _).mono ?_; rintro e w3 ⟨rfl, ho⟩; (first | (have HC := hide (HC.out.trans ho)) | (have HC := hide (HC.out.drew.trans ho))); have hBP := HBP.out.only HC.out (by simp); have hBQ := HBQ.out.only HC.out (by simp); have kp0 := hBP.cell 0; have kp1 := hBP.cell 1; have kq0 := hBQ.cell 0; have kq1 := hBQ.cell 1; simp at kp0 kp1 kq0 kq1; clear hBP hBQ ho)
      | (go_at_call 10; refine (HPS.out _ (HO.out.trans HC.out)).mono ?_; rintro e w4 ⟨v4, rfl, hr4, ho⟩; (first | (have HC := hide (HC.out.trans ho)) | (have HC := hide (HC.out.drew.trans ho))); have hBP := HBP.out.only HC.out (by simp); have hBQ := HBQ.out.only HC.out (by simp); have kp0 := hBP.cell 0; have kp1 := hBP.cell 1; have kq0 := hBQ.cell 0; have kq1 := hBQ.cell 1; simp at kp0 kp1 kq0 kq1; clear hBP hBQ ho; have HR4 := hide hr4; have H4 := hide (Only.refl [] w4); clear hr4))
    go_wp2_with (first
      | (go_at_call_of 12 (Value.agg #[.int .i64 p.1, .int .i64 p.2]); refine (HOF.out _ p).mono ?_; rintro e wq ⟨rfl, ho⟩; (first | (have HC := hide (HC.out.trans ho)) | (have HC := hide (HC.out.drew.trans ho))); (first | (have H4 := hide (H4.out.trans ho)) | (have H4 := hide (H4.out.drew.trans ho))); have hBP := HBP.out.only HC.out (by simp); have hBQ := HBQ.out.only HC.out (by simp); have kp0 := hBP.cell 0; have kp1 := hBP.cell 1; have kq0 := hBQ.cell 0; have kq1 := hBQ.cell 1; simp at kp0 kp1 kq0 kq1; clear hBP hBQ ho)       | (go_at_call_of 12 (Value.agg #[.int .i64 q.1, .int .i64 q.2]); refine (HOF.out _ q).mono ?_; rintro e wq ⟨rfl, ho⟩; (first | (have HC := hide (HC.out.trans ho)) | (have HC := hide (HC.out.drew.trans ho))); (first | (have H4 := hide (H4.out.trans ho)) | (have H4 := hide (H4.out.drew.trans ho))); have hBP := HBP.out.only HC.out (by simp); have hBQ := HBQ.out.only HC.out (by simp); have kp0 := hBP.cell 0; have kp1 := hBP.cell 1; have kq0 := hBQ.cell 0; have kq1 := hBQ.cell 1; simp at kp0 kp1 kq0 kq1; clear hBP hBQ ho)       | (go_at_call_of 11 (Value.agg #[.int .i64 p.1, .int .i64 p.2]); refine (HRR.out _ p).mono ?_; rintro e wq ⟨rfl, ho⟩; (first | (have HC := hide (HC.out.trans ho)) | (have HC := hide (HC.out.drew.trans ho))); (first | (have H4 := hide (H4.out.trans ho)) | (have H4 := hide (H4.out.drew.trans ho))); have hBP := HBP.out.only HC.out (by simp); have hBQ := HBQ.out.only HC.out (by simp); have kp0 := hBP.cell 0; have kp1 := hBP.cell 1; have kq0 := hBQ.cell 0; have kq1 := hBQ.cell 1; simp at kp0 kp1 kq0 kq1; clear hBP hBQ ho; rw [HPV.out])       | (go_at_call_of 11 (Value.agg #[.int .i64 q.1, .int .i64 q.2]); refine (HRR.out _ q).mono ?_; rintro e wq ⟨rfl, ho⟩; (first | (have HC := hide (HC.out.trans ho)) | (have HC := hide (HC.out.drew.trans ho))); (first | (have H4 := hide (H4.out.trans ho)) | (have H4 := hide (H4.out.drew.trans ho))); have hBP := HBP.out.only HC.out (by simp); have hBQ := HBQ.out.only HC.out (by simp); have kp0 := hBP.cell 0; have kp1 := hBP.cell 1; have kq0 := hBQ.cell 0; have kq1 := hBQ.cell 1; simp at kp0 kp1 kq0 kq1; clear hBP hBQ ho; rw [HQV.out])       | (go_at_call 13; refine (HFR.out _ HPV.out HQV.out).mono ?_; rintro e wq ⟨rfl, ho⟩; (first | (have HC := hide (HC.out.trans ho)) | (have HC := hide (HC.out.drew.trans ho))); (first | (have H4 := hide (H4.out.trans ho)) | (have H4 := hide (H4.out.drew.trans ho))); have hBP := HBP.out.only HC.out (by simp); have hBQ := HBQ.out.only HC.out (by simp); have kp0 := hBP.cell 0; have kp1 := hBP.cell 1; have kq0 := hBQ.cell 0; have kq1 := hBQ.cell 1; simp at kp0 kp1 kq0 kq1; clear hBP hBQ ho)       | (go_at_call 14; refine (HMA.out _ _ (HR4.out.only H4.out (by simp))).mono ?_; rintro e wq ⟨rfl, ho⟩; (first | (have HC := hide (HC.out.trans ho)) | (have HC := hide (HC.out.drew.trans ho))); (first | (have H4 := hide (H4.out.trans ho)) | (have H4 := hide (H4.out.drew.trans ho))); have hBP := HBP.out.only HC.out (by simp); have hBQ := HBQ.out.only HC.out (by simp); have kp0 := hBP.cell 0; have kp1 := hBP.cell 1; have kq0 := hBQ.cell 0; have kq1 := hBQ.cell 1; simp at kp0 kp1 kq0 kq1; clear hBP hBQ ho; rw [HMV.out])       | (go_at_call 15; refine (HNR.out _ _ (HR4.out.only H4.out (by simp)) HMV.out HPV.out).mono ?_; rintro e wq ⟨rfl, ho⟩; (first | (have HC := hide (HC.out.trans ho)) | (have HC := hide (HC.out.drew.trans ho))); (first | (have H4 := hide (H4.out.trans ho)) | (have H4 := hide (H4.out.drew.trans ho))); have hBP := HBP.out.only HC.out (by simp); have hBQ := HBQ.out.only HC.out (by simp); have kp0 := hBP.cell 0; have kp1 := hBP.cell 1; have kq0 := hBQ.cell 0; have kq1 := hBQ.cell 1; simp at kp0 kp1 kq0 kq1; clear hBP hBQ ho))
    try
      go_region_held3 (fun w' => w'.cell? ⟨w.heap.size, 0, none⟩ = some (.int .i64 p.1) ∧ w'.cell? ⟨w.heap.size, 1, none⟩ = some (.int .i64 p.2) ∧ w'.cell? ⟨w.heap.size + 1, 0, none⟩ = some (.int .i64 q.1) ∧ w'.cell? ⟨w.heap.size + 1, 1, none⟩ = some (.int .i64 q.2))
        (exact ⟨kp0, kp1, kq0, kq1⟩)
        (first
        | (go_at_call_of 12 (Value.agg #[.int .i64 p.1, .int .i64 p.2]); refine (HOF.out _ p).mono ?_; rintro e wq ⟨rfl, ho⟩; (first | (have HC := hide (HC.out.trans ho)) | (have HC := hide (HC.out.drew.trans ho))); (first | (have H4 := hide (H4.out.trans ho)) | (have H4 := hide (H4.out.drew.trans ho))); have hBP := HBP.out.only HC.out (by simp); have hBQ := HBQ.out.only HC.out (by simp); have kp0 := hBP.cell 0; have kp1 := hBP.cell 1; have kq0 := hBQ.cell 0; have kq1 := hBQ.cell 1; simp at kp0 kp1 kq0 kq1; clear hBP hBQ ho)       | (go_at_call_of 12 (Value.agg #[.int .i64 q.1, .int .i64 q.2]); refine (HOF.out _ q).mono ?_; rintro e wq ⟨rfl, ho⟩; (first | (have HC := hide (HC.out.trans ho)) | (have HC := hide (HC.out.drew.trans ho))); (first | (have H4 := hide (H4.out.trans ho)) | (have H4 := hide (H4.out.drew.trans ho))); have hBP := HBP.out.only HC.out (by simp); have hBQ := HBQ.out.only HC.out (by simp); have kp0 := hBP.cell 0; have kp1 := hBP.cell 1; have kq0 := hBQ.cell 0; have kq1 := hBQ.cell 1; simp at kp0 kp1 kq0 kq1; clear hBP hBQ ho)       | (go_at_call_of 11 (Value.agg #[.int .i64 p.1, .int .i64 p.2]); refine (HRR.out _ p).mono ?_; rintro e wq ⟨rfl, ho⟩; (first | (have HC := hide (HC.out.trans ho)) | (have HC := hide (HC.out.drew.trans ho))); (first | (have H4 := hide (H4.out.trans ho)) | (have H4 := hide (H4.out.drew.trans ho))); have hBP := HBP.out.only HC.out (by simp); have hBQ := HBQ.out.only HC.out (by simp); have kp0 := hBP.cell 0; have kp1 := hBP.cell 1; have kq0 := hBQ.cell 0; have kq1 := hBQ.cell 1; simp at kp0 kp1 kq0 kq1; clear hBP hBQ ho; rw [HPV.out])       | (go_at_call_of 11 (Value.agg #[.int .i64 q.1, .int .i64 q.2]); refine (HRR.out _ q).mono ?_; rintro e wq ⟨rfl, ho⟩; (first | (have HC := hide (HC.out.trans ho)) | (have HC := hide (HC.out.drew.trans ho))); (first | (have H4 := hide (H4.out.trans ho)) | (have H4 := hide (H4.out.drew.trans ho))); have hBP := HBP.out.only HC.out (by simp); have hBQ := HBQ.out.only HC.out (by simp); have kp0 := hBP.cell 0; have kp1 := hBP.cell 1; have kq0 := hBQ.cell 0; have kq1 := hBQ.cell 1; simp at kp0 kp1 kq0 kq1; clear hBP hBQ ho; rw [HQV.out])       | (go_at_call 13; refine (HFR.out _ HPV.out HQV.out).mono ?_; rintro e wq ⟨rfl, ho⟩; (first | (have HC := hide (HC.out.trans ho)) | (have HC := hide (HC.out.drew.trans ho))); (first | (have H4 := hide (H4.out.trans ho)) | (have H4 := hide (H4.out.drew.trans ho))); have hBP := HBP.out.only HC.out (by simp); have hBQ := HBQ.out.only HC.out (by simp); have kp0 := hBP.cell 0; have kp1 := hBP.cell 1; have kq0 := hBQ.cell 0; have kq1 := hBQ.cell 1; simp at kp0 kp1 kq0 kq1; clear hBP hBQ ho)       | (go_at_call 14; refine (HMA.out _ _ (HR4.out.only H4.out (by simp))).mono ?_; rintro e wq ⟨rfl, ho⟩; (first | (have HC := hide (HC.out.trans ho)) | (have HC := hide (HC.out.drew.trans ho))); (first | (have H4 := hide (H4.out.trans ho)) | (have H4 := hide (H4.out.drew.trans ho))); have hBP := HBP.out.only HC.out (by simp); have hBQ := HBQ.out.only HC.out (by simp); have kp0 := hBP.cell 0; have kp1 := hBP.cell 1; have kq0 := hBQ.cell 0; have kq1 := hBQ.cell 1; simp at kp0 kp1 kq0 kq1; clear hBP hBQ ho; rw [HMV.out])       | (go_at_call 15; refine (HNR.out _ _ (HR4.out.only H4.out (by simp)) HMV.out HPV.out).mono ?_; rintro e wq ⟨rfl, ho⟩; (first | (have HC := hide (HC.out.trans ho)) | (have HC := hide (HC.out.drew.trans ho))); (first | (have H4 := hide (H4.out.trans ho)) | (have H4 := hide (H4.out.drew.trans ho))); have hBP := HBP.out.only HC.out (by simp); have hBQ := HBQ.out.only HC.out (by simp); have kp0 := hBP.cell 0; have kp1 := hBP.cell 1; have kq0 := hBQ.cell 0; have kq1 := hBQ.cell 1; simp at kp0 kp1 kq0 kq1; clear hBP hBQ ho))
    all_goals
      go_wp2_with (first
      | (go_at_call_of 12 (Value.agg #[.int .i64 p.1, .int .i64 p.2]); refine (HOF.out _ p).mono ?_; rintro e wq ⟨rfl, ho⟩; (first | (have HC := hide (HC.out.trans ho)) | (have HC := hide (HC.out.drew.trans ho))); (first | (have H4 := hide (H4.out.trans ho)) | (have H4 := hide (H4.out.drew.trans ho))); have hBP := HBP.out.only HC.out (by simp); have hBQ := HBQ.out.only HC.out (by simp); have kp0 := hBP.cell 0; have kp1 := hBP.cell 1; have kq0 := hBQ.cell 0; have kq1 := hBQ.cell 1; simp at kp0 kp1 kq0 kq1; clear hBP hBQ ho)       | (go_at_call_of 12 (Value.agg #[.int .i64 q.1, .int .i64 q.2]); refine (HOF.out _ q).mono ?_; rintro e wq ⟨rfl, ho⟩; (first | (have HC := hide (HC.out.trans ho)) | (have HC := hide (HC.out.drew.trans ho))); (first | (have H4 := hide (H4.out.trans ho)) | (have H4 := hide (H4.out.drew.trans ho))); have hBP := HBP.out.only HC.out (by simp); have hBQ := HBQ.out.only HC.out (by simp); have kp0 := hBP.cell 0; have kp1 := hBP.cell 1; have kq0 := hBQ.cell 0; have kq1 := hBQ.cell 1; simp at kp0 kp1 kq0 kq1; clear hBP hBQ ho)       | (go_at_call_of 11 (Value.agg #[.int .i64 p.1, .int .i64 p.2]); refine (HRR.out _ p).mono ?_; rintro e wq ⟨rfl, ho⟩; (first | (have HC := hide (HC.out.trans ho)) | (have HC := hide (HC.out.drew.trans ho))); (first | (have H4 := hide (H4.out.trans ho)) | (have H4 := hide (H4.out.drew.trans ho))); have hBP := HBP.out.only HC.out (by simp); have hBQ := HBQ.out.only HC.out (by simp); have kp0 := hBP.cell 0; have kp1 := hBP.cell 1; have kq0 := hBQ.cell 0; have kq1 := hBQ.cell 1; simp at kp0 kp1 kq0 kq1; clear hBP hBQ ho; rw [HPV.out])       | (go_at_call_of 11 (Value.agg #[.int .i64 q.1, .int .i64 q.2]); refine (HRR.out _ q).mono ?_; rintro e wq ⟨rfl, ho⟩; (first | (have HC := hide (HC.out.trans ho)) | (have HC := hide (HC.out.drew.trans ho))); (first | (have H4 := hide (H4.out.trans ho)) | (have H4 := hide (H4.out.drew.trans ho))); have hBP := HBP.out.only HC.out (by simp); have hBQ := HBQ.out.only HC.out (by simp); have kp0 := hBP.cell 0; have kp1 := hBP.cell 1; have kq0 := hBQ.cell 0; have kq1 := hBQ.cell 1; simp at kp0 kp1 kq0 kq1; clear hBP hBQ ho; rw [HQV.out])       | (go_at_call 13; refine (HFR.out _ HPV.out HQV.out).mono ?_; rintro e wq ⟨rfl, ho⟩; (first | (have HC := hide (HC.out.trans ho)) | (have HC := hide (HC.out.drew.trans ho))); (first | (have H4 := hide (H4.out.trans ho)) | (have H4 := hide (H4.out.drew.trans ho))); have hBP := HBP.out.only HC.out (by simp); have hBQ := HBQ.out.only HC.out (by simp); have kp0 := hBP.cell 0; have kp1 := hBP.cell 1; have kq0 := hBQ.cell 0; have kq1 := hBQ.cell 1; simp at kp0 kp1 kq0 kq1; clear hBP hBQ ho)       | (go_at_call 14; refine (HMA.out _ _ (HR4.out.only H4.out (by simp))).mono ?_; rintro e wq ⟨rfl, ho⟩; (first | (have HC := hide (HC.out.trans ho)) | (have HC := hide (HC.out.drew.trans ho))); (first | (have H4 := hide (H4.out.trans ho)) | (have H4 := hide (H4.out.drew.trans ho))); have hBP := HBP.out.only HC.out (by simp); have hBQ := HBQ.out.only HC.out (by simp); have kp0 := hBP.cell 0; have kp1 := hBP.cell 1; have kq0 := hBQ.cell 0; have kq1 := hBQ.cell 1; simp at kp0 kp1 kq0 kq1; clear hBP hBQ ho; rw [HMV.out])       | (go_at_call 15; refine (HNR.out _ _ (HR4.out.only H4.out (by simp)) HMV.out HPV.out).mono ?_; rintro e wq ⟨rfl, ho⟩; (first | (have HC := hide (HC.out.trans ho)) | (have HC := hide (HC.out.drew.trans ho))); (first | (have H4 := hide (H4.out.trans ho)) | (have H4 := hide (H4.out.drew.trans ho))); have hBP := HBP.out.only HC.out (by simp); have hBQ := HBQ.out.only HC.out (by simp); have kp0 := hBP.cell 0; have kp1 := hBP.cell 1; have kq0 := hBQ.cell 0; have kq1 := hBQ.cell 1; simp at kp0 kp1 kq0 kq1; clear hBP hBQ ho))
      go_ret
      exact ⟨rfl, HO.out.trans HC.out⟩

theorem near_law (v : Value) (l : List (Int × Int)) {w : World} (h : RdS 2 ptc w [] v l ∧ ∀ p ∈ l, Fit p) (p : Int × Int) (hp : Fit p) (q : Int × Int) (hq : Fit q) :
    Calls Try.prog 3 #[v, pt p, pt q] w fun e w' => e = .returned (.bool true) ∧ Only [] w w' := by
  rcases Nat.lt_or_ge 70 l.length with hl | hl
  · exact near_long w v l p q h.1 hl
  · exact near_walk w v l p q h.1 hl h.2 hp hq

theorem own_skyNearest : ownKnob Try.prog.godebug = none := by kernel_rfl
theorem laidOut_skyNearest : laidOutB Try.prog = true := by kernel_rfl

set_option maxRecDepth 100000 in
theorem lifted_skyNearest (os : Os) (started : os.Started) (H : Type) (enc : TypeId × Value → H) :
    ReturnsInHanded {} Try.checked os 3 .any (Rows.skyNearestSpec.pre6 enc Try.prog Try.f3 Rows.skyNearestRow.domain false) (Rows.skyNearestSpec.post enc Try.prog Try.f3 false true false false) := by
  refine returnsInHanded_of_change (C := Try.checked) own_skyNearest started (by kernel_rfl) Try.func3
    (ChangeSpec.witness6 (enc := enc) (C := Try.checked) false ⟨#[], #[.slice none 0 0, .agg #[.int .i64 0, .int .i64 0], .agg #[.int .i64 0, .int .i64 0]], []⟩ 8 (by kernel_rfl) (by kernel_rfl) (by kernel_rfl) (by kernel_rfl)) ?_
  intro W base args ds gs before hval0 hW hcnd _
  have hval : ∀ (j : Nat) t v, Try.f3.params[j]? = some t → args[j]? = some v → Value.okWide Try.prog W .any base t v := hval0
  have hW' := hW
  obtain ⟨p, q, hA0, hV, rfl, hfz, hnd⟩ := hW
  have hA : DataW.TrodAll enc Try.prog W 0 (fun _ => true) true Try.f3.params.toList args.toList ds p := hA0
  rw [Try.params3] at hA hval
  obtain ⟨v0, vs0, d0, ds0, p0, q0, hargs, rfl, rfl, h0, r0⟩ := trodAll_cons hA
  obtain ⟨v1, vs1, d1, ds1, p1, q1, rfl, rfl, rfl, h1, r1⟩ := trodAll_cons r0
  obtain ⟨v2, vs2, d2, ds2, p2, q2, rfl, rfl, rfl, h2, r2⟩ := trodAll_cons r1
  obtain ⟨rfl, rfl, rfl⟩ := trodAll_nil r2
  obtain rfl : args = #[v0, v1, v2] := by cases args; simp_all
  obtain ⟨rfl, rfl⟩ := trodVars_none hV
  obtain ⟨a0, len0, cap0, rfl⟩ := okWide_slice Try.underlying22 (hval 0 22 v0 rfl rfl)
  have k0 := h0
  have lt0 : ∀ x ∈ p0, x.block < W.heap.size := by obtain ⟨m, hm⟩ := k0; exact DataW.trod_lt m _ _ _ hm
  obtain ⟨z0, w0⟩ := open_pts h0
  have k1 := h1
  have lt1 : ∀ x ∈ p1, x.block < W.heap.size := by obtain ⟨m, hm⟩ := k1; exact DataW.trod_lt m _ _ _ hm
  obtain ⟨z1, rfl, f1⟩ := open_pt (hval 1 24 v1 rfl rfl) h1
  have k2 := h2
  have lt2 : ∀ x ∈ p2, x.block < W.heap.size := by obtain ⟨m, hm⟩ := k2; exact DataW.trod_lt m _ _ _ hm
  obtain ⟨z2, rfl, f2⟩ := open_pt (hval 2 24 v2 rfl rfl) h2
  clear hA0 hval0
  refine (near_law _ z0 w0 z1 f1 z2 f2).mono fun e W' ⟨he, hon⟩ => ?_
  subst he
  have bel : Below W.heap.size W W' := hon.below (fun x hx => by cases hx) (Nat.le_refl _)
  exact ⟨_, rfl, _, _, _, [], _, [], hW', trodAll_mk1 (shut_bool Try.underlying4 _), (trodAll_cons_mk (Below.trod laidOut_skyNearest (by kernel_rfl) (of_decide_eq_true (by kernel_rfl)) k0 bel lt0) (trodAll_cons_mk (Below.trod laidOut_skyNearest (by kernel_rfl) (of_decide_eq_true (by kernel_rfl)) k1 bel lt1) (trodAll_cons_mk (Below.trod laidOut_skyNearest (by kernel_rfl) (of_decide_eq_true (by kernel_rfl)) k2 bel lt2) trodAll_mk0))), rfl, bel.frame _, fun h => by cases h⟩

theorem over_skyNearest : Rows.skyNearestRow.holds Try.pinned (OpenSpec.ofChange Rows.skyNearestSpec) :=
  OpenClaim.holds_of_wide 3 Try.f3 rfl rfl rfl rfl rfl rfl rfl ⟨rfl, rfl, rfl, rfl, rfl⟩ rfl rfl rfl rfl rfl (by kernel_rfl) Try.func3 (by kernel_rfl)
    (of_decide_eq_true (by kernel_rfl)) (by unfold Func.isWrapper; first | (rw [if_pos (by decide +kernel)]; kernel_rfl) | (rw [if_neg (by decide +kernel)]; exact ⟨rfl, rfl⟩))
    (fun os started H enc _ => lifted_skyNearest os started H enc)

theorem skyNearest_proved : Rows.SkyNearestSaid := over_skyNearest
#print axioms skyNearest_proved
end Go.Proofs.Ytkihjgcjapkgpaa

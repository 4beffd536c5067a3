/-
  Contracts of sky's Far, and of the law's points and legs, by walking.
-/
import Derived.Test.YtkihjgcjapkgpaaSky6
namespace Go.Proofs.Ytkihjgcjapkgpaa
open Go.RowKit Go.Deep

set_option maxRecDepth 100000 in
set_option maxHeartbeats 1600000 in
theorem far_any (w : World) (p q : Int × Int) (hp : Fit p) (hq : Fit q) :
    Calls Try.prog 9 #[pt p, pt q] w (TwoPost (if okP p && okP q then farV p q else 0) (if okP p && okP q then 0 else 3) w) := by
  have HO := hide (((Only.refl [] w).alloc (.cells #[.int .i64 p.1, .int .i64 p.2] 24)).alloc (.cells #[.int .i64 q.1, .int .i64 q.2] 24))
  have HP := hide ((Blk.new w 24 #[.int .i64 p.1, .int .i64 p.2]).alloc (.cells #[.int .i64 q.1, .int .i64 q.2] 24))
  have hQ := Blk.new (w.alloc (.cells #[.int .i64 p.1, .int .i64 p.2] 24)) 24 #[.int .i64 q.1, .int .i64 q.2]
  rw [World.size_alloc] at hQ
  have HQ := hide hQ
  clear hQ
  have HR := hide (show ∀ W p, Fit p → _ from fun W p h => right_any W p h)
  have HFP := hide hp
  have HFQ := hide hq
  clear hp hq
  unfold pt at *
  have hz1 : w.heap.size < ((w.alloc (.cells #[.int .i64 p.1, .int .i64 p.2] 24)).alloc (.cells #[.int .i64 q.1, .int .i64 q.2] 24)).heap.size := HP.out.lt
  have hz2 : w.heap.size + 1 < ((w.alloc (.cells #[.int .i64 p.1, .int .i64 p.2] 24)).alloc (.cells #[.int .i64 q.1, .int .i64 q.2] 24)).heap.size := HQ.out.lt
  have HZ1 := hide hz1
  have HZ2 := hide hz2
  clear hz1 hz2
  cases hpv : okP p with
  | false =>
    have HPV := hide hpv
    clear hpv
    go_enter Try.func9, Try.ntmps9
    go_wp2_with (go_at_call 24; refine (HR.out _ p HFP.out).mono ?_; rintro e w1 ⟨rfl, ho⟩; have HO1 := hide (HO.out.trans ho); rw [HPV.out]; clear ho)
    go_ret2
    exact twopost rfl rfl HO1.out
  | true =>
  cases hqv : okP q with
  | false =>
    have HPV := hide hpv
    have HQV := hide hqv
    clear hpv hqv
    go_enter Try.func9, Try.ntmps9
    go_wp2_with (first
      | (go_at_call_of 24 (Value.agg #[.int .i64 p.1, .int .i64 p.2]); refine (HR.out _ p HFP.out).mono ?_; rintro e w1 ⟨rfl, ho⟩; have HO1 := hide (HO.out.trans ho); have hq1 := HQ.out.only ho (by simp); have k0 := hq1.cell 0; have k1 := hq1.cell 1; simp at k0 k1; rw [HPV.out]; clear ho hq1)
      | (go_at_call_of 24 (Value.agg #[.int .i64 q.1, .int .i64 q.2]); refine (HR.out _ q HFQ.out).mono ?_; rintro e w2 ⟨rfl, ho⟩; have HO2 := hide (HO1.out.trans ho); rw [HQV.out]; clear ho))
    go_ret2
    exact twopost rfl rfl HO2.out
  | true =>
    have hpb := okP_bd hpv
    have hqb := okP_bd hqv
    have HPV := hide hpv
    have HQV := hide hqv
    have HNP := hide (show ∀ W, _ from fun W => number_any W p.1 p.2 (by omega) (by omega))
    have HNQ := hide (show ∀ W, _ from fun W => number_any W q.1 q.2 (by omega) (by omega))
    have HSUB := hide (show ∀ c d, Cx c p.1 p.2 → Cx d q.1 q.2 → _ from fun c d hc hd => cx_sub hc hd (by omega) (by omega))
    have HSQ := hide (show ∀ W c, Cx c (p.1 - q.1) (p.2 - q.2) → _ from fun W c hc => square_any W c _ _ hc (by omega) (by omega))
    have b1 := sq_bd (x := p.1 - q.1) (B := 40000000) (by omega) (by omega)
    have b2 := sq_bd (x := p.2 - q.2) (B := 40000000) (by omega) (by omega)
    have HTI := hide (show ∀ r, FI r ((p.1 - q.1) * (p.1 - q.1) + (p.2 - q.2) * (p.2 - q.2)) → ∀ W : World, (convert 88 3 (.float .f64 r)).run Try.prog W = .ok (.int .i64 (farV p q)) W from fun r hr W => run_convert_float_int (P := Try.prog) W 88 3 .f64 .i64 r _ (by rw [Try.underlying88]; rfl) Try.underlying3 (fi_toInt hr (by unfold farV; omega) (by unfold farV; omega)))
    clear hpv hqv hpb hqb b1 b2
    go_enter Try.func9, Try.ntmps9
    go_upto_region 3 with (first
      | (go_at_call_of 24 (Value.agg #[.int .i64 p.1, .int .i64 p.2]); refine (HR.out _ p HFP.out).mono ?_; rintro e w1 ⟨rfl, ho⟩; have HO1 := hide (HO.out.trans ho); have HQ1 := hide (HQ.out.only ho (by simp)); have HP1 := hide (HP.out.only ho (by simp)); have k0 := HQ1.out.cell 0; have k1 := HQ1.out.cell 1; simp at k0 k1; rw [HPV.out]; clear ho)
      | (go_at_call_of 24 (Value.agg #[.int .i64 q.1, .int .i64 q.2]); refine (HR.out _ q HFQ.out).mono ?_; rintro e w2 ⟨rfl, ho⟩; have HO2 := hide (HO1.out.trans ho); have HQ2 := hide (HQ1.out.only ho (by simp)); have HP2 := hide (HP1.out.only ho (by simp)); clear k0 k1; have k0 := HP2.out.cell 0; have k1 := HP2.out.cell 1; have k2 := HQ2.out.cell 0; have k3 := HQ2.out.cell 1; simp at k0 k1 k2 k3; rw [HQV.out]; clear ho))
    have hz1 : w.heap.size < w2.heap.size := HP2.out.lt
    have hz2 : w.heap.size + 1 < w2.heap.size := HQ2.out.lt
    go_region_held3 (fun w' => w'.cell? ⟨w.heap.size, 0, none⟩ = some (.int .i64 p.1) ∧ w'.cell? ⟨w.heap.size, 1, none⟩ = some (.int .i64 p.2) ∧ w'.cell? ⟨w.heap.size + 1, 0, none⟩ = some (.int .i64 q.1) ∧ w'.cell? ⟨w.heap.size + 1, 1, none⟩ = some (.int .i64 q.2))
      (first | exact ⟨k0, k1, k2, k3⟩ | exact ⟨a0, a1, a2, a3⟩ | exact ⟨b0, b1, b2, b3⟩)
      (first
      | (go_at_call_of 40 (Value.agg #[.int .i64 p.1, .int .i64 p.2]); refine (HNP.out _).mono ?_; rintro e w3 ⟨c3, rfl, hc3, ho⟩; have H3 := hide (((Only.refl [] w2).drew).trans ho); have HC3 := hide hc3; have a0 := (cell_only H3.out hz1 (by simp)).trans k0; have a1 := (cell_only H3.out hz1 (by simp)).trans k1; have a2 := (cell_only H3.out hz2 (by simp)).trans k2; have a3 := (cell_only H3.out hz2 (by simp)).trans k3; clear ho hc3)
      | (go_at_call_of 40 (Value.agg #[.int .i64 q.1, .int .i64 q.2]); refine (HNQ.out _).mono ?_; rintro e w4 ⟨c4, rfl, hc4, ho⟩; have H4 := hide (H3.out.trans ho); obtain ⟨cs, hsub, hcs⟩ := HSUB.out _ _ HC3.out hc4; have HCS := hide hcs; have b0 := (cell_only H4.out hz1 (by simp)).trans k0; have b1 := (cell_only H4.out hz1 (by simp)).trans k1; have b2 := (cell_only H4.out hz2 (by simp)).trans k2; have b3 := (cell_only H4.out hz2 (by simp)).trans k3; clear ho hc4 hcs)
      | (go_at_call 41; refine (HSQ.out _ _ HCS.out).mono ?_; rintro e w5 ⟨r, rfl, hr, rfl⟩; have hti := HTI.out r hr; clear hr))
    all_goals
      go_wp2_with fail
      go_ret2
      exact twopost rfl rfl (HO2.out.trans H4.out)

theorem Try.infoPt : (Try.prog.info? 33).map (fun i => (i.zero, i.size, i.bytes)) = some (some (.agg #[.int .i64 0, .int .i64 0]), 2, 16) := by kernel_rfl
theorem Try.infoLg : (Try.prog.info? 91).map (fun i => (i.zero, i.size, i.bytes)) = some (some (.agg #[.int .i64 0, .int .i64 0, .int .i64 0]), 3, 24) := by kernel_rfl

theorem ptc_len (p : Int × Int) : (ptc p).length = 2 := rfl
theorem lgc_len (g : Lg) : (lgc g).length = 3 := rfl
theorem take_succ_getD {α : Type} (l : List α) (d : α) {k : Nat} (h : k < l.length) : l.take (k + 1) = l.take k ++ [l.getD k d] := by
  rw [List.take_succ_eq_append_getElem h, List.getD_eq_getElem?_getD, List.getElem?_eq_getElem h]; rfl

/-- What is handed back reads as l. -/
def ListPost {α : Type} (k : Nat) (F : α → List Value) (l : List α) (w : World) (e : Ending) (w' : World) : Prop := ∃ v, e = .returned v ∧ RdS k F w' [] v l ∧ Only [] w w'

theorem reads_new (w : World) (e : TypeId) (xs : List Value) (B k : Nat) (hx : xs.length = k) (hB : w.heap.size < B) : Reads (w.alloc (.cells xs.toArray e)) B k (some ⟨w.heap.size, 0, none⟩) 1 xs :=
  ⟨by rw [hx, Nat.one_mul], fun _ => ⟨_, rfl, hB, fun j u hu => by rw [add_mk, Nat.zero_add, (Blk.new w e xs.toArray).cell]; simpa using hu⟩⟩

set_option maxRecDepth 100000 in
set_option maxHeartbeats 1600000 in
theorem points_any (w : World) (N : List Nat) (v : Value) (l : List (Int × Int)) (hv : RdS 2 ptc w N v l) (hl : l.length ≤ 1000) :
    Calls Try.prog 10 #[v] w (ListPost 2 ptc l w) := by
  obtain ⟨i0, hi, hz0, hz1, hz2⟩ := info_parts Try.infoPt
  obtain ⟨A, cap, rfl, hc, hm⟩ := hv.form
  unfold maxLen at hm
  have HV := hide hv
  obtain ⟨n, hn⟩ : ∃ n, n = l.length := ⟨_, rfl⟩
  have HN := hide hn
  rw [← hn] at hl hc HV ⊢
  clear hv hn
  have HOW0 := hide (show (w.alloc (.cells #[] 33)).ownsRow w.heap.size 33 2 (.slice (some ⟨w.heap.size, 0, none⟩) 0 0) 0 [] from ⟨rfl, .inr ⟨w.heap.size, 0, #[], rfl, Nat.le_refl _, heap_alloc_new w _, Nat.le_refl _, Nat.zero_le _, rfl, rfl⟩⟩)
  have HO0 := hide ((Only.refl [] w).alloc (.cells #[] 33))
  have HF := hide (show ∀ W p, _ from fun W p => of_any W p)
  unfold pt at HF
  go_enter Try.func10, Try.ntmps10
  go_wp2_with fail
  go_loopw [4, 3] (fun i v wr => ∃ k : Nat, k ≤ n ∧ i = .int .i64 k ∧ Hid (wr.ownsRow w.heap.size 33 2 v k ((l.take k).flatMap ptc)) ∧ Hid (Only [] w wr)) (fun i _ _ => n - (intOf i).toNat)
  case atStart => exact ⟨0, Nat.zero_le _, rfl, HOW0, HO0⟩
  case round =>
    obtain ⟨k, hk, rfl, how, ho⟩ := hrel
    by_cases hlt : k < n
    · have hlt' : (k : Int) < n := by omega
      obtain ⟨g, o, rfl, _, hg⟩ := HV.out.addr (by rw [← HN.out]; omega)
      obtain ⟨c1, c2⟩ := pts_cell (HV.out.only ho.out (by simp)) (show k < l.length by rw [← HN.out]; exact hlt)
      have HTK := hide (take_succ_getD l (0, 0) (show k < l.length by rw [← HN.out]; exact hlt))
      generalize l.getD k (0, 0) = p at *
      go_wp2_with (first
        | (go_at_call 12; refine (HF.out _ p).mono ?_; rintro e w2 ⟨rfl, ho2⟩; have HO2 := hide ((ho.out.trans ho2).alloc (.cells #[.int .i64 p.1, .int .i64 p.2] 33)); have HOW2 := hide (World.ownsRow.alloc (own_only how.out ho2 (by simp)) (.cells #[.int .i64 p.1, .int .i64 p.2] 33)); have HRN := hide (reads_new w2 33 (ptc p) (w2.heap.size + 1) 2 rfl (by omega)); clear ho2)
        | (at_builtin; refine wpList_append_any _ rfl (.tmp 12) (.tmp 18) 30 rfl w.heap.size 33 i0 (.agg #[.int .i64 0, .int .i64 0]) 2 16 Try.underlying30 hi hz0 hz1 hz2 rfl (by decide) _ k _ rfl HOW2.out (w2.heap.size + 1) (some ⟨w2.heap.size, 0, none⟩) 1 1 (ptc p) rfl HRN.out (by simp [ptc, Value.oneCell']) (by unfold maxLen; omega) (by omega) HO2.out.size ?_; intro v1 w3 hown1 hg1 _; have HOW3 := hide (own_snoc hown1); have HO3 := hide (HO2.out.grown hg1 (fun j hj => .inr (own_block_ge HOW2.out hj))); clear hown1 hg1))
      go_roundw
      case rel => exact ⟨k + 1, by omega, by go_num, hide (by rw [HTK.out]; exact HOW3.out), HO3⟩
      case measure => simp [intOf]; omega
    · have hlt' : ¬ (k : Int) < n := by omega
      obtain rfl : k = n := by omega
      have HR := hide (RdS.of_own (N := []) ptc_len (by omega) how.out (by simp)).1
      rw [HN.out, List.take_length] at HR
      go_wp2_with fail
      go_ret
      exact ⟨_, rfl, HR.out, ho.out⟩
end Go.Proofs.Ytkihjgcjapkgpaa

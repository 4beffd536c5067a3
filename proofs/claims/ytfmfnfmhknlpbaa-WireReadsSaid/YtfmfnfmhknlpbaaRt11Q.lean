/-
  The reference's term, Read and Is at any text: by walking. Condition: at most 1,000,000 bytes.
-/
import Derived.Test.YtfmfnfmhknlpbaaRt6Q
import Derived.Test.YtfmfnfmhknlpbaaRt7Q
import Derived.Test.YtfmfnfmhknlpbaaRt8Q
import Derived.Test.YtfmfnfmhknlpbaaRt9Q
import Derived.Test.YtfmfnfmhknlpbaaRt10Q
import Derived.Test.YtfmfnfmhknlpbaaGeQ
import Derived.Test.YtfmfnfmhknlpbaaKzQ
namespace Go.Proofs.Ytfmfnfmhknlpbaa
open Go.RowKit Go.Deep

theorem term_allR (s : ByteArray) : ∀ f, TRSaid s f := by
  intro f
  induction f using Nat.strongRecOn with
  | _ f ih =>
    cases f with
    | zero => intro w p _ _ h; omega
    | succ f =>
      intro w p hp hs hf
      have hT : ∀ f', f' ≤ f → TRSaid s f' := fun f' h => ih f' (by omega)
      by_cases h4 : kindV (atV s p : Nat) ≤ 4 ∨ atV s (p + 1) ≠ 40
      · exact term_short s f w p hp hs h4
      · have hk5 : 5 ≤ kindV (atV s p : Nat) := by
          apply Decidable.byContradiction
          intro h
          exact h4 (.inl (by omega))
        have h40 : atV s (p + 1) = 40 := by
          apply Decidable.byContradiction
          intro h
          exact h4 (.inr h)
        by_cases h8 : kindV (atV s p : Nat) = 8
        · exact term_long8 s f hT w p hp hs hf hk5 h8 h40
        by_cases h10 : kindV (atV s p : Nat) = 10
        · exact term_long10 s f hT w p hp hs hf hk5 h10 h40
        by_cases h6 : kindV (atV s p : Nat) = 6
        · exact term_long6 s f hT w p hp hs hf hk5 h6 h40
        by_cases h11 : kindV (atV s p : Nat) = 11
        · exact term_long11 s f hT w p hp hs hf hk5 h11 h40
        exact term_longg s f hT w p hp hs hf hk5 h8 h10 h6 h11 h40

/-- What the reference's Read hands back. -/
def ReadRPost (r : Option Nd) (w : World) (e : Ending) (w' : World) : Prop :=
  match r with
  | none => e = .returned nd0 ∧ Only [] w w'
  | some nd => ∃ bv pv, e = .returned (.agg #[.int .i64 nd.1, .int .u64 nd.2.1, bv, pv]) ∧ Only [] w w' ∧
      (∀ N : List Nat, (∀ x ∈ N, x < w.heap.size) → Rd w' N bv (ints .u8 (byts nd.2.2.1))) ∧ (∀ N : List Nat, (∀ x ∈ N, x < w.heap.size) → Rd w' N pv (strs nd.2.2.2))
theorem readR_no {r : Option Nd} {w w' : World} (h : r = none) (ho : Only [] w w') : ReadRPost r w (.returned (.agg #[.int .i64 0, .int .u64 0, .slice none 0 0, .slice none 0 0])) w' := by
  subst h; exact ⟨rfl, ho⟩
theorem readR_yes {r : Option Nd} {w w' : World} {k : Int} {n : Nat} {bs : List UInt8} {parts : List ByteArray} {bv pv : Value} (h : r = some (k, n, bs, parts)) (ho : Only [] w w')
    (hb : ∀ N : List Nat, (∀ x ∈ N, x < w.heap.size) → Rd w' N bv (ints .u8 (byts bs))) (hp : ∀ N : List Nat, (∀ x ∈ N, x < w.heap.size) → Rd w' N pv (strs parts)) :
    ReadRPost r w (.returned (.agg #[.int .i64 k, .int .u64 n, bv, pv])) w' := by
  subst h; exact ⟨_, _, rfl, ho, hb, hp⟩
theorem rd_four {w w' : World} {B : Nat} {N : List Nat} {v a b c d : Value} {l : List Value} (h : ∀ N : List Nat, (∀ x ∈ N, x ≤ B) → Rd w' N v l) (hB : ∀ x ∈ N, x < B) :
    Rd ((((w'.setCell ⟨B, 0, none⟩ a).setCell ⟨B, 1, none⟩ b).setCell ⟨B, 2, none⟩ c).setCell ⟨B, 3, none⟩ d) N v l :=
  ((h (B :: N) (by intro x hx; rcases List.mem_cons.1 hx with rfl | hx; exact Nat.le_refl _; exact Nat.le_of_lt (hB x hx))).only (only_four0 (Only.refl [B] w') (.inl (by simp))) (fun x hx => by rw [List.mem_singleton.1 hx]; exact List.mem_cons_self)).less (fun x hx => List.mem_cons_of_mem _ hx)

set_option maxRecDepth 100000 in
set_option maxHeartbeats 3200000 in
theorem readR_any (w : World) (s : ByteArray) (hs : s.size ≤ 1000000) : Calls Try.prog 62 #[.string s] w (ReadRPost (parseV s) w) := by
  have HB := hide (Blk.new w 95 zeroN)
  have HO := hide ((Only.refl [] w).alloc (.cells zeroN 95))
  unfold zeroN at HB HO
  by_cases hlt : 65536 < s.size
  · have hltI : (65536 : Int) < s.size := by omega
    have HR := hide (show parseV s = none by unfold parseV; rw [if_pos hlt])
    clear hlt
    go_enter Try.func62, Try.ntmps62
    go_wp2_with fail
    refine bodyPost_ret (results_cell_row rfl _ _ w.heap.size 95 _ (0, 0) _ rfl HB.out Try.underlying95 rfl (by kernel_rfl)) rfl ?_
    exact readR_no HR.out HO.out
  · have hltI : ¬ (65536 : Int) < s.size := by omega
    have HT := hide (fun W => term_allR s (2 * s.size + 2) W 0 (Nat.zero_le _) hs (by omega))
    have HV := hide (show parseV s = match rt s (2 * s.size + 2) none 0 with | none => none | some (nd, q) => if q = s.size then some nd else none by
      refine Eq.trans ?_ (rt_parse s (2 * s.size + 2)).symm; unfold parseV; rw [if_neg hlt]; rfl)
    unfold NodePost at HT
    have hz : ((0 : Nat) : Int) = 0 := rfl
    rw [hz] at HT
    clear hz hlt
    have c0 := HB.out.cell 0
    have c1 := HB.out.cell 1
    have c2 := HB.out.cell 2
    have c3 := HB.out.cell 3
    simp at c0 c1 c2 c3
    have cf := HB.out.frozen
    cases hr : rt s (2 * s.size + 2) none 0 with
    | none =>
      have HR := hide (show parseV s = none by rw [HV.out, hr])
      rw [hr] at HT
      simp only at HT
      have hq : ((-1 : Int) != (s.size : Int)) = true := by rw [bne_iff_ne]; omega
      clear hr HV
      go_enter Try.func62, Try.ntmps62
      go_wp2_with (go_at_call 72; refine (HT.out _).mono ?_; rintro e w2 ⟨rfl, ho⟩; have HO := hide ((HO.out.trans ho).alloc (.cells #[.int .i64 0, .int .u64 0, .slice none 0 0, .slice none 0 0] 95)); have HB := hide ((HB.out.only ho (by simp)).alloc (.cells #[.int .i64 0, .int .u64 0, .slice none 0 0, .slice none 0 0] 95)); clear ho c0 c1 c2 c3 cf; have c0 := HB.out.cell 0; have c1 := HB.out.cell 1; have c2 := HB.out.cell 2; have c3 := HB.out.cell 3; simp at c0 c1 c2 c3; have cf := HB.out.frozen)
      refine bodyPost_ret (results_cell_row rfl _ _ w.heap.size 95 _ (0, 0) _ rfl ((((HB.out.set_ 0 _).set_ 1 _).set_ 2 _).set_ 3 _) Try.underlying95 rfl (by kernel_rfl)) rfl ?_
      exact readR_no HR.out (only_four0 HO.out (.inr (Nat.le_refl _)))
    | some r =>
      obtain ⟨⟨k, n, bs, parts⟩, q⟩ := r
      rw [hr] at HT
      simp only at HT
      by_cases hq : q = s.size
      · have HR := hide (show parseV s = some (k, n, bs, parts) by rw [HV.out, hr]; simp only; rw [if_pos hq])
        have hqb : ((q : Int) != (s.size : Int)) = false := by rw [bne_eq_false_iff_eq]; omega
        clear hr HV hq
        go_enter Try.func62, Try.ntmps62
        go_wp2_with (go_at_call 72; refine (HT.out _).mono ?_; rintro e w2 ⟨bv, pv, rfl, ho, hb, hp⟩; obtain ⟨A1, cap1, rfl, _, _⟩ := (hb [] (by simp)).formb; obtain ⟨A2, cap2, rfl, _, _⟩ := (hp [] (by simp)).form; have HRB := hide hb; have HRP := hide hp; have HSZ := hide ho.size; have HN := hide (Blk.new w2 95 #[.int .i64 k, .int .u64 n, .slice A1 bs.length cap1, .slice A2 (strs parts).length cap2]); have HO := hide ((HO.out.trans ho).alloc (.cells #[.int .i64 k, .int .u64 n, .slice A1 bs.length cap1, .slice A2 (strs parts).length cap2] 95)); have HB := hide ((HB.out.only ho (by simp)).alloc (.cells #[.int .i64 k, .int .u64 n, .slice A1 bs.length cap1, .slice A2 (strs parts).length cap2] 95)); clear ho c0 c1 c2 c3 cf hb hp; have c0 := HB.out.cell 0; have c1 := HB.out.cell 1; have c2 := HB.out.cell 2; have c3 := HB.out.cell 3; have d0 := HN.out.cell 0; have d1 := HN.out.cell 1; have d2 := HN.out.cell 2; have d3 := HN.out.cell 3; simp at c0 c1 c2 c3 d0 d1 d2 d3; have cf := HB.out.frozen)
        refine bodyPost_ret (results_cell_row rfl _ _ w.heap.size 95 _ (0, 0) _ rfl ((((HB.out.set_ 0 _).set_ 1 _).set_ 2 _).set_ 3 _) Try.underlying95 rfl (by kernel_rfl)) rfl ?_
        refine readR_yes HR.out (only_four0 HO.out (.inr (Nat.le_refl _))) (fun N hN => rd_four (w := w) (fun N hN => (HRB.out N (fun x hx => by have := hN x hx; simp; omega)).only ((Only.refl [] _).alloc _) (by simp)) hN) (fun N hN => rd_four (w := w) (fun N hN => (HRP.out N (fun x hx => by have := hN x hx; simp; omega)).only ((Only.refl [] _).alloc _) (by simp)) hN)
      · have HR := hide (show parseV s = none by rw [HV.out, hr]; simp only; rw [if_neg hq])
        have hqb : ((q : Int) != (s.size : Int)) = true := by rw [bne_iff_ne]; omega
        clear hr HV hq
        go_enter Try.func62, Try.ntmps62
        go_wp2_with (go_at_call 72; refine (HT.out _).mono ?_; rintro e w2 ⟨bv, pv, rfl, ho, hb, hp⟩; obtain ⟨A1, cap1, rfl, _, _⟩ := (hb [] (by simp)).formb; obtain ⟨A2, cap2, rfl, _, _⟩ := (hp [] (by simp)).form; have HO := hide ((HO.out.trans ho).alloc (.cells #[.int .i64 k, .int .u64 n, .slice A1 bs.length cap1, .slice A2 (strs parts).length cap2] 95)); have HB := hide ((HB.out.only ho (by simp)).alloc (.cells #[.int .i64 k, .int .u64 n, .slice A1 bs.length cap1, .slice A2 (strs parts).length cap2] 95)); clear ho c0 c1 c2 c3 cf hb hp; have c0 := HB.out.cell 0; have c1 := HB.out.cell 1; have c2 := HB.out.cell 2; have c3 := HB.out.cell 3; simp at c0 c1 c2 c3; have cf := HB.out.frozen)
        refine bodyPost_ret (results_cell_row rfl _ _ w.heap.size 95 _ (0, 0) _ rfl ((((HB.out.set_ 0 _).set_ 1 _).set_ 2 _).set_ 3 _) Try.underlying95 rfl (by kernel_rfl)) rfl ?_
        exact readR_no HR.out (only_four0 HO.out (.inr (Nat.le_refl _)))

set_option maxRecDepth 100000 in
set_option maxHeartbeats 1600000 in
theorem isR_any (w : World) (s : ByteArray) (hs : s.size ≤ 1000000) : Calls Try.prog 31 #[.string s] w (RetB (parseV s).isSome w) := by
  have HP := hide (readR_any w s hs)
  have HK := hide (fun k n b l (h : parseV s = some (k, n, b, l)) => kind_pos h)
  cases hr : parseV s with
  | none =>
    rw [hr] at HP
    unfold ReadRPost nd0 at HP
    simp only at HP
    have hf : ∀ W : World, (Instr.field 95 (.agg #[.int .i64 0, .int .u64 0, .slice none 0 0, .slice none 0 0]) 0).run Try.prog W = .ok (.int .i64 0) W := fun W => by kernel_rfl
    go_enter Try.func31, Try.ntmps31
    go_wp2_with (go_at_call 62; refine HP.out.mono ?_; rintro e w2 ⟨rfl, ho⟩; have HO := hide ho; clear ho)
    go_ret
    exact retb rfl HO.out
  | some nd =>
    obtain ⟨k, n, bs, parts⟩ := nd
    have hk := HK.out _ _ _ _ hr
    have hkb : (0 : Int) < k := by omega
    rw [hr] at HP
    unfold ReadRPost at HP
    simp only at HP
    have hf : ∀ (A1 A2 : Option Addr) (n1 c1 n2 c2 : Nat) (W : World), (Instr.field 95 (.agg #[.int .i64 k, .int .u64 (n : Nat), .slice A1 n1 c1, .slice A2 n2 c2]) 0).run Try.prog W = .ok (.int .i64 k) W := fun A1 A2 n1 c1 n2 c2 W => by kernel_rfl
    clear hk HK
    go_enter Try.func31, Try.ntmps31
    go_wp2_with (go_at_call 62; refine HP.out.mono ?_; rintro e w2 ⟨bv, pv, rfl, ho, hb, hp⟩; obtain ⟨A1, cap1, rfl, _, _⟩ := (hb [] (by simp)).formb; obtain ⟨A2, cap2, rfl, _, _⟩ := (hp [] (by simp)).form; have HO := hide ho; clear ho hb hp)
    go_ret
    exact retb rfl HO.out
end Go.Proofs.Ytfmfnfmhknlpbaa

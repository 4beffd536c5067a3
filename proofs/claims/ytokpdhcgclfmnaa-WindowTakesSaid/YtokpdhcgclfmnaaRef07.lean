/-
  Contracts of the window's reference, by walking.
-/
import Derived.Test.YtokpdhcgclfmnaaChecked
import Derived.Test.YtokpdhcgclfmnaaSl
namespace Go.Proofs.Ytokpdhcgclfmnaa
open Go.RowKit Go.Deep

def nats (L : List Nat) : List Int := L.map fun (n : Nat) => (n : Int)
theorem nats_get {L : List Nat} {k x : Nat} (h : L[k]? = some x) : (nats L)[k]? = some (x : Int) := by simp [nats, h]
theorem nats_length (L : List Nat) : (nats L).length = L.length := by simp [nats]
theorem nats_snoc (L : List Nat) (x : Nat) : nats L ++ [(x : Int)] = nats (L ++ [x]) := by simp [nats]

theorem snoc_ind {α : Type} {P : List α → Prop} (h0 : P []) (h1 : ∀ L x, P L → P (L ++ [x])) (L : List α) : P L := by
  have key : ∀ R : List α, P R.reverse := by
    intro R
    induction R with
    | nil => exact h0
    | cons x R ih => rw [List.reverse_cons]; exact h1 _ _ ih
  have h := key L.reverse
  rwa [List.reverse_reverse] at h

def maxL (L : List Nat) : Nat := L.foldl max 0
theorem maxL_snoc (L : List Nat) (x : Nat) : maxL (L ++ [x]) = max (maxL L) x := by simp [maxL]
theorem maxL_take (L : List Nat) (k x : Nat) (h : L[k]? = some x) : maxL (L.take (k + 1)) = max (maxL (L.take k)) x := by
  rw [List.take_add_one, h]
  exact maxL_snoc _ _
theorem le_maxL : ∀ (L : List Nat) (x : Nat), x ∈ L → x ≤ maxL L := by
  refine snoc_ind (fun x h => by cases h) (fun L y ih x h => ?_)
  rw [maxL_snoc]
  rcases List.mem_append.1 h with h | h
  · have := ih x h; omega
  · have : x = y := by simpa using h
    omega
theorem maxL_lt (B : Nat) (hB : 0 < B) : ∀ (L : List Nat), (∀ x ∈ L, x < B) → maxL L < B := by
  refine snoc_ind (fun _ => hB) (fun L y ih h => ?_)
  rw [maxL_snoc]
  have h1 := ih (fun x hx => h x (List.mem_append_left _ hx))
  have h2 := h y (by simp)
  omega

/-- The reference's window by value: its list. -/
def RWin (w : World) (N : List Nat) (v : Value) (L : List Nat) : Prop := ∃ s, v = .agg #[s] ∧ Rd w N s (ints .u64 (nats L))

theorem RWin.only {S : List Nat} {w w' : World} {N : List Nat} {v : Value} {L : List Nat} (h : RWin w N v L) (ho : Only S w w') (hs : ∀ x ∈ S, x ∈ N) : RWin w' N v L := by
  obtain ⟨s, hv, hr⟩ := h
  exact ⟨s, hv, hr.only ho hs⟩

theorem ref_top (w : World) (N : List Nat) (v : Value) (L : List Nat) (h : RWin w N v L) :
    Calls Try.prog 32 #[v] w fun e w' => e = .returned (.int .u64 (maxL L : Nat)) ∧ Only [] w w' := by
  obtain ⟨s, rfl, hr⟩ := h
  obtain ⟨A, cap, rfl, hc, hm⟩ := hr.formi
  rw [nats_length] at hr hc ⊢
  unfold maxLen at hm
  have hat := hide hr.at_.2.2.2
  obtain ⟨n, hn⟩ : ∃ n, n = L.length := ⟨_, rfl⟩
  have HN := hide hn
  rw [← hn] at hc ⊢
  clear hr hn
  go_enter Try.func32, Try.ntmps32
  go_wp2_with fail
  go_loop [3, 4] (fun t i => ∃ k : Nat, k ≤ n ∧ i = .int .i64 k ∧ t = .int .u64 (maxL (L.take k) : Nat)) (fun _ i => n - (intOf i).toNat)
  case atStart => exact ⟨0, Nat.zero_le _, rfl, rfl⟩
  case round =>
    obtain ⟨k, hk, rfl, rfl⟩ := hrel
    rcases Nat.lt_or_ge k n with hlt | hge
    case inr =>
      have hi : ¬ (k : Int) < n := by omega
      have HK := hide (show L.take k = L by rw [List.take_of_length_le (by rw [← HN.out]; exact hge)])
      clear hge
      go_wp2
      go_ret
      exact ⟨by rw [HK.out]; rfl, (Only.refl _ _).alloc _⟩
    case inl =>
      have hi : (k : Int) < n := by omega
      have hkx : L[k]? = some (L[k]'(by rw [← HN.out]; exact hlt)) := List.getElem?_eq_getElem _
      generalize (L[k]'(by rw [← HN.out]; exact hlt)) = x at hkx
      obtain ⟨g, o, rfl, _, hgl, hcx⟩ := hat.out k _ (ints_get (nats_get hkx))
      have HM := hide (maxL_take L k x hkx)
      clear hkx
      generalize maxL (L.take k) = t at HM ⊢
      by_cases hxt : t < x
      · have hxt' : (t : Int) < x := by omega
        have HM' := hide (show maxL (L.take (k + 1)) = x by rw [HM.out]; omega)
        clear HM
        go_wp2
        go_round
        case rel => exact ⟨k + 1, by omega, by go_num, by rw [HM'.out]⟩
        case measure => simp [intOf]; omega
      · have hxt' : ¬ (t : Int) < x := by omega
        have HM' := hide (show maxL (L.take (k + 1)) = t by rw [HM.out]; omega)
        clear HM
        go_wp2
        go_round
        case rel => exact ⟨k + 1, by omega, by go_num, by rw [HM'.out]⟩
        case measure => simp [intOf]; omega

theorem ref_has (w : World) (N : List Nat) (v : Value) (L : List Nat) (c : Nat) (h : RWin w N v L) :
    Calls Try.prog 39 #[v, .int .u64 c] w fun e w' => e = .returned (.bool (decide (c ∈ L))) ∧ Only [] w w' := by
  obtain ⟨s, rfl, hr⟩ := h
  obtain ⟨A, cap, rfl, hc, hm⟩ := hr.formi
  rw [nats_length] at hr hc ⊢
  unfold maxLen at hm
  have hat := hide hr.at_.2.2.2
  obtain ⟨n, hn⟩ : ∃ n, n = L.length := ⟨_, rfl⟩
  have HN := hide hn
  rw [← hn] at hc ⊢
  clear hr hn
  go_enter Try.func39, Try.ntmps39
  go_wp2_with fail
  go_loop [5] (fun i => ∃ k : Nat, k ≤ n ∧ i = .int .i64 k ∧ Hid (c ∉ L.take k)) (fun i => n - (intOf i).toNat)
  case atStart => exact ⟨0, Nat.zero_le _, rfl, hide (by simp)⟩
  case round =>
    obtain ⟨k, hk, rfl, hno⟩ := hrel
    rcases Nat.lt_or_ge k n with hlt | hge
    case inr =>
      have hi : ¬ (k : Int) < n := by omega
      have HK := hide (show decide (c ∈ L) = false by
        have h := hno.out
        rw [List.take_of_length_le (by rw [← HN.out]; exact hge)] at h
        exact decide_eq_false h)
      clear hge
      go_wp2
      go_ret
      exact ⟨by rw [HK.out]; rfl, (Only.refl _ _).alloc _⟩
    case inl =>
      have hi : (k : Int) < n := by omega
      have hkx : L[k]? = some (L[k]'(by rw [← HN.out]; exact hlt)) := List.getElem?_eq_getElem _
      generalize (L[k]'(by rw [← HN.out]; exact hlt)) = x at hkx
      obtain ⟨g, o, rfl, _, hgl, hcx⟩ := hat.out k _ (ints_get (nats_get hkx))
      have HX := hide hkx
      clear hkx
      by_cases hxc : x = c
      · have hq : ((x : Int) == c) = true := by rw [beq_iff_eq, hxc]
        have HK := hide (show decide (c ∈ L) = true by rw [← hxc]; exact decide_eq_true (List.mem_of_getElem? HX.out))
        clear hxc
        go_wp2
        go_ret
        exact ⟨by rw [HK.out]; rfl, (Only.refl _ _).alloc _⟩
      · have hq : ((x : Int) == c) = false := by rw [beq_eq_false_iff_ne]; omega
        have HK := hide (show c ∉ L.take (k + 1) by
          rw [List.take_add_one, HX.out]
          simp only [Option.toList_some, List.mem_append, List.mem_singleton, not_or]
          exact ⟨hno.out, fun h => hxc h.symm⟩)
        clear hxc
        go_wp2
        go_round
        case rel => exact ⟨k + 1, by omega, by go_num, HK⟩
        case measure => simp [intOf]; omega

/-- What the document's Would tells of a list. -/
def wouldL (L : List Nat) (c : Nat) : Int :=
  if 18446744073709543423 ≤ c then 10 else if L ≠ [] ∧ (c ∈ L ∨ (c < maxL L ∧ 2048 ≤ maxL L - c)) then 9 else 0

theorem ref_would (w : World) (N : List Nat) (v : Value) (L : List Nat) (c : Nat) (h : RWin w N v L) (hc : c < 18446744073709551616) (hL : maxL L < 18446744073709551616) :
    Calls Try.prog 29 #[v, .int .u64 c] w fun e w' => e = .returned (.int .i64 (wouldL L c)) ∧ Only [] w w' := by
  have HH := hide h
  obtain ⟨s, rfl, hr⟩ := h
  obtain ⟨A, cap, rfl, hcap, hm⟩ := hr.formi
  rw [nats_length] at hr hcap HH ⊢
  unfold maxLen at hm
  clear hr
  by_cases k1 : 18446744073709543423 ≤ c
  · have e : wouldL L c = 10 := by unfold wouldL; rw [if_pos k1]
    rw [e]
    have k1' : decide ((18446744073709543423 : Int) ≤ c) = true := by rw [decide_eq_true_iff]; omega
    clear e k1
    go_enter Try.func29, Try.ntmps29
    go_wp2_with fail
    go_ret
    exact ⟨rfl, (Only.refl _ _).alloc _⟩
  have k1' : decide ((18446744073709543423 : Int) ≤ c) = false := by rw [decide_eq_false_iff_not]; omega
  by_cases k2 : L = []
  · have e : wouldL L c = 0 := by unfold wouldL; rw [if_neg k1, if_neg (by rw [k2]; simp)]
    have hn : L.length = 0 := by rw [k2]; rfl
    rw [e]
    generalize hnn : L.length = n at HH hcap hn ⊢
    have hgt : ¬ (0 : Int) < (n : Int) := by omega
    clear hnn hn e k1 k2
    go_enter Try.func29, Try.ntmps29
    go_wp2_with (go_at_call 32; refine (ref_top _ N _ L (HH.out.only ((Only.refl [] w).alloc _) (by simp))).mono ?_; rintro e w1 ⟨rfl, ho1⟩; have kc : w1.cell? ⟨w.heap.size, 0, none⟩ = some (.slice A n cap) := only_new_cell ho1 (by simp) 0; have HO1 := hide (((Only.refl [] w).alloc _).trans ho1); clear ho1)
    go_ret
    exact ⟨rfl, HO1.out⟩
  have hn : 0 < L.length := List.length_pos_iff.2 k2
  generalize hnn : L.length = n at HH hcap hn ⊢
  have hgt : (0 : Int) < (n : Int) := by omega
  clear hnn hn
  by_cases k3 : c ∈ L
  · have e : wouldL L c = 9 := by unfold wouldL; rw [if_neg k1, if_pos ⟨k2, .inl k3⟩]
    rw [e]
    have HMEM := hide (decide_eq_true k3)
    clear e k1 k2 k3
    go_enter Try.func29, Try.ntmps29
    go_wp2_with (first | (go_at_call 32; refine (ref_top _ N _ L (HH.out.only ((Only.refl [] w).alloc _) (by simp))).mono ?_; rintro e w1 ⟨rfl, ho1⟩; have kc : w1.cell? ⟨w.heap.size, 0, none⟩ = some (.slice A n cap) := only_new_cell ho1 (by simp) 0; have HO1 := hide (((Only.refl [] w).alloc _).trans ho1); clear ho1) | (go_at_call 39; refine (ref_has _ N _ L c (HH.out.only HO1.out (by simp))).mono ?_; rw [HMEM.out]; rintro e w2 ⟨rfl, ho2⟩))
    go_ret
    exact ⟨rfl, HO1.out.trans ho2⟩
  have HMEM := hide (decide_eq_false k3)
  by_cases k4 : c < maxL L
  case neg =>
    have e : wouldL L c = 0 := by unfold wouldL; rw [if_neg k1, if_neg (by rintro ⟨_, h | ⟨h, _⟩⟩; exact k3 h; exact k4 h)]
    rw [e]
    have k4' : ¬ (c : Int) < (maxL L : Nat) := by omega
    clear e k1 k2 k3 k4
    go_enter Try.func29, Try.ntmps29
    go_wp2_with (first | (go_at_call 32; refine (ref_top _ N _ L (HH.out.only ((Only.refl [] w).alloc _) (by simp))).mono ?_; rintro e w1 ⟨rfl, ho1⟩; have kc : w1.cell? ⟨w.heap.size, 0, none⟩ = some (.slice A n cap) := only_new_cell ho1 (by simp) 0; have HO1 := hide (((Only.refl [] w).alloc _).trans ho1); clear ho1) | (go_at_call 39; refine (ref_has _ N _ L c (HH.out.only HO1.out (by simp))).mono ?_; rw [HMEM.out]; rintro e w2 ⟨rfl, ho2⟩))
    go_ret
    exact ⟨rfl, HO1.out.trans ho2⟩
  have k4' : (c : Int) < (maxL L : Nat) := by omega
  by_cases k5 : 2048 ≤ maxL L - c
  · have e : wouldL L c = 9 := by unfold wouldL; rw [if_neg k1, if_pos ⟨k2, .inr ⟨k4, k5⟩⟩]
    rw [e]
    have k5' : (2048 : Int) ≤ (maxL L : Nat) - (c : Int) := by omega
    clear e k1 k2 k3 k5
    go_enter Try.func29, Try.ntmps29
    go_wp2_with (first | (go_at_call 32; refine (ref_top _ N _ L (HH.out.only ((Only.refl [] w).alloc _) (by simp))).mono ?_; rintro e w1 ⟨rfl, ho1⟩; have kc : w1.cell? ⟨w.heap.size, 0, none⟩ = some (.slice A n cap) := only_new_cell ho1 (by simp) 0; have HO1 := hide (((Only.refl [] w).alloc _).trans ho1); clear ho1) | (go_at_call 39; refine (ref_has _ N _ L c (HH.out.only HO1.out (by simp))).mono ?_; rw [HMEM.out]; rintro e w2 ⟨rfl, ho2⟩))
    go_ret
    exact ⟨rfl, HO1.out.trans ho2⟩
  · have e : wouldL L c = 0 := by unfold wouldL; rw [if_neg k1, if_neg (by rintro ⟨_, h | ⟨_, h⟩⟩; exact k3 h; exact k5 h)]
    rw [e]
    have k5' : ¬ (2048 : Int) ≤ (maxL L : Nat) - (c : Int) := by omega
    clear e k1 k2 k3 k5
    go_enter Try.func29, Try.ntmps29
    go_wp2_with (first | (go_at_call 32; refine (ref_top _ N _ L (HH.out.only ((Only.refl [] w).alloc _) (by simp))).mono ?_; rintro e w1 ⟨rfl, ho1⟩; have kc : w1.cell? ⟨w.heap.size, 0, none⟩ = some (.slice A n cap) := only_new_cell ho1 (by simp) 0; have HO1 := hide (((Only.refl [] w).alloc _).trans ho1); clear ho1) | (go_at_call 39; refine (ref_has _ N _ L c (HH.out.only HO1.out (by simp))).mono ?_; rw [HMEM.out]; rintro e w2 ⟨rfl, ho2⟩))
    go_ret
    exact ⟨rfl, HO1.out.trans ho2⟩

theorem Try.info33' : (Try.prog.info? 33).map (fun i => (i.zero, i.size, i.bytes)) = some (some (.int .u64 0), 1, 8) := by kernel_rfl

theorem ref_take (w : World) (N : List Nat) (v : Value) (L : List Nat) (c : Nat) (h : RWin w N v L) (hN : ∀ z ∈ N, z < w.heap.size) (hl : L.length ≤ 10000) :
    Calls Try.prog 31 #[v, .int .u64 c] w fun e w' => ∃ v', e = .returned v' ∧ RWin w' N v' (L ++ [c]) ∧ Only [] w w' := by
  obtain ⟨s, rfl, hr⟩ := h
  obtain ⟨i0, hi, hz0, hz1, hz2⟩ := info_parts Try.info33'
  obtain ⟨A, cap, rfl, hc, hm⟩ := hr.formi
  rw [nats_length] at hr hc ⊢
  have hrd := hide hr.reads
  generalize hn : L.length = n at hrd hc hl ⊢
  have HN := hide hn
  unfold maxLen at hm
  clear hr hn
  have hsz2 : w.heap.size + 2 ≤ ((w.alloc (.cells #[.slice A n cap] 52)).alloc (.cells #[.slice none 0 0] 52)).heap.size := by simp
  have hown0 := own_empty ((w.alloc (.cells #[.slice A n cap] 52)).alloc (.cells #[.slice none 0 0] 52)) 33 (w.heap.size + 2) hsz2
  rw [show ((w.alloc (.cells #[.slice A n cap] 52)).alloc (.cells #[.slice none 0 0] 52)).heap.size = w.heap.size + 1 + 1 by simp] at hown0
  have hown0 := hide hown0
  have ho0 : Only [] w (((w.alloc (.cells #[.slice A n cap] 52)).alloc (.cells #[.slice none 0 0] 52)).alloc (.cells #[] 33)) := (((Only.refl [] w).alloc _).alloc _).alloc _
  have hblk : Blk (((w.alloc (.cells #[.slice A n cap] 52)).alloc (.cells #[.slice none 0 0] 52)).alloc (.cells #[] 33)) (w.heap.size + 1) 52 #[.slice none 0 0] := by
    have h := (Blk.new (w.alloc (.cells #[.slice A n cap] 52)) 52 #[.slice none 0 0]).alloc (.cells #[] 33)
    simpa using h
  have HBLK := hide hblk
  have HO0 := hide ho0
  have hrd2 := hide (show Reads (((w.alloc (.cells #[.slice A n cap] 52)).alloc (.cells #[.slice none 0 0] 52)).alloc (.cells #[] 33)) w.heap.size 1 A n (ints .u64 (nats L)) from ((hrd.out.alloc (Nat.le_refl _) _).alloc (by simp) _).alloc (by simp; omega) _)
  have hsz3 := hide (show w.heap.size + 2 ≤ (((w.alloc (.cells #[.slice A n cap] 52)).alloc (.cells #[.slice none 0 0] 52)).alloc (.cells #[] 33)).heap.size by simp)
  clear ho0 hblk hsz2
  go_enter Try.func31, Try.ntmps31
  go_wp2_with (first
    | (at_builtin; refine wpList_append_any _ rfl (.tmp 5) (.tmp 7) 34 rfl (w.heap.size + 2) 33 i0 (.int .u64 0) 1 8 Try.underlying34 hi hz0 hz1 hz2 rfl (by decide) _ 0 [] rfl hown0.out w.heap.size A n cap (ints .u64 (nats L)) rfl hrd2.out (ints_one _ _) (by unfold maxLen; omega) (by omega) hsz3.out ?_; intro v1 w1 hown1 hg1 _; have HOWN1 := hide hown1; have ho1 := hide (HO0.out.grown hg1 (fun j hj => .inr (by have := own_block_ge hown0.out hj; omega))); have HB1 := hide (HBLK.out.grown hg1 (by intro h; have := own_block_ge hown0.out h.symm; omega)); have hs1 := hide (Nat.le_trans hsz3.out hg1.size); clear hown1 hg1)
    | (at_builtin; refine wpList_append_any _ rfl (.tmp 8) (.tmp 10) 34 rfl (w.heap.size + 2) 33 i0 (.int .u64 0) 1 8 Try.underlying34 hi hz0 hz1 hz2 rfl (by decide) _ (0 + n) _ rfl (HOWN1.out.alloc _) (w1.heap.size + 1) (some ⟨w1.heap.size, 0, none⟩) 1 1 [.int .u64 c] rfl (reads_one _ _ _ _ (by omega)) (by simp [Value.oneCell']) (by unfold maxLen; omega) (by omega) (by have := hs1.out; simp; omega) ?_; intro v2 w2 hown2 hg2 _; have HB2 := hide ((HB1.out.alloc (.cells #[.int .u64 c] 33)).grown hg2 (by intro h; have := own_block_ge HOWN1.out h.symm; omega)); have HR2 := hide (show w2.ownsRow (w.heap.size + 2) 33 1 v2 (n + 1) (ints .u64 (nats (L ++ [c]))) by rw [← nats_snoc, ← ints_snoc, show n + 1 = 0 + n + 1 by omega]; exact hown2); have HO2 := hide ((ho1.out.alloc _).grown hg2 (fun j hj => .inr (by have := own_block_ge HOWN1.out hj; omega))); clear hown2 hg2; obtain ⟨A2, c2, rfl, hc2, hm2⟩ := own_form HR2.out; have kc : w2.cell? ⟨w.heap.size + 1, 0, none⟩ = some (.slice none 0 0) := HB2.out.cell 0; have kf := HB2.out.frozen 0))
  have HB3 := hide (HB2.out.set_ 0 (.slice A2 (n + 1) c2))
  refine bodyPost_ret (v := .agg #[.slice A2 (n + 1) c2]) ?_ rfl ?_
  · have hc3 := HB3.out.cell 0
    simp at hc3
    simp [results, Try.results31, go_sem, hc3]
  · refine ⟨_, rfl, ⟨_, rfl, ?_⟩, HO2.out.setCell (.inr (by simp)) _⟩
    have hR := (Rd.of_own (N := N ++ [w.heap.size + 1]) HR2.out (by intro x hx; rcases List.mem_append.1 hx with h | h; have := hN x h; omega; simp at h; omega)).1
    exact (hR.only (S := [w.heap.size + 1]) ((Only.refl _ _).setCell (.inl (by simp)) _) (by simp)).less (by intro x hx; exact List.mem_append_left _ hx)

def cntL (top : Nat) (L : List Nat) : Nat := (L.filter fun x => decide (top - x < 2048)).length
theorem cntL_take (top : Nat) (L : List Nat) (k x : Nat) (h : L[k]? = some x) : cntL top (L.take (k + 1)) = cntL top (L.take k) + if top - x < 2048 then 1 else 0 := by
  unfold cntL
  rw [List.take_add_one, h, List.filter_append, List.length_append]
  simp only [Option.toList_some, List.filter_cons, List.filter_nil]
  by_cases hx : top - x < 2048
  · simp [hx]
  · simp [hx]
theorem cntL_le (top : Nat) (L : List Nat) : cntL top L ≤ L.length := List.length_filter_le _ _

/-- What the document's Missing tells of a list. -/
def missL (L : List Nat) : Int := if L = [] then 0 else (if maxL L < 2048 then (maxL L : Int) + 1 else 2048) - cntL (maxL L) L

set_option maxRecDepth 100000 in
set_option maxHeartbeats 800000 in
theorem ref_missing (w : World) (N : List Nat) (v : Value) (L : List Nat) (h : RWin w N v L) (hL : maxL L < 18446744073709551616) (hl : L.length ≤ 10000) :
    Calls Try.prog 33 #[v] w fun e w' => e = .returned (.int .i64 (missL L)) ∧ Only [] w w' := by
  have HH := hide h
  obtain ⟨s, rfl, hr⟩ := h
  obtain ⟨A, cap, rfl, hcap, hm⟩ := hr.formi
  rw [nats_length] at hr hcap HH ⊢
  unfold maxLen at hm
  have hat := hide hr.at_.2.2.2
  have HTOP := hide (le_maxL L)
  clear hr
  by_cases k2 : L = []
  · have e : missL L = 0 := by unfold missL; rw [if_pos k2]
    have hn : L.length = 0 := by rw [k2]; rfl
    rw [e]
    generalize hnn : L.length = n at HH hcap hn ⊢
    have hgt : ((n : Int) == 0) = true := by rw [hn]; rfl
    clear hnn hn e k2 hL hl
    go_enter Try.func33, Try.ntmps33
    go_wp2_with fail
    go_ret
    exact ⟨rfl, (Only.refl _ _).alloc _⟩
  have EM := hide (show missL L = (if maxL L < 2048 then (maxL L : Int) + 1 else 2048) - cntL (maxL L) L by unfold missL; rw [if_neg k2])
  rw [EM.out]
  have hn : 0 < L.length := List.length_pos_iff.2 k2
  generalize hnn : L.length = n at HH hcap hn hl ⊢
  have HN := hide hnn
  have hgt : ((n : Int) == 0) = false := by rw [beq_eq_false_iff_ne]; omega
  clear hnn hn k2
  generalize htop : maxL L = top at hL HTOP EM ⊢
  have HT := hide htop
  clear htop
  go_enter Try.func33, Try.ntmps33
  go_wp2_with (go_at_call 32; refine (ref_top _ N _ L (HH.out.only ((Only.refl [] w).alloc _) (by simp))).mono ?_; rw [HT.out]; rintro e w1 ⟨rfl, ho1⟩; have kc : w1.cell? ⟨w.heap.size, 0, none⟩ = some (.slice A n cap) := only_new_cell ho1 (by simp) 0; have HO1 := hide (((Only.refl [] w).alloc _).trans ho1); clear ho1)
  go_loop [4, 6] (fun c i => ∃ k : Nat, k ≤ n ∧ i = .int .i64 k ∧ c = .int .i64 (cntL top (L.take k) : Nat)) (fun _ i => n - (intOf i).toNat)
  case atStart => exact ⟨0, Nat.zero_le _, rfl, rfl⟩
  case round =>
    obtain ⟨k, hk, rfl, rfl⟩ := hrel
    rcases Nat.lt_or_ge k n with hlt | hge
    case inr =>
      have hi : ¬ (k : Int) < n := by omega
      have HK := hide (show L.take k = L by rw [List.take_of_length_le (by rw [HN.out]; exact hge)])
      have hcl := cntL_le top (L.take k)
      rw [HK.out, HN.out] at hcl
      rw [HK.out]
      clear hge
      by_cases ht : top < 2048
      · have ht' : (top : Int) < 2048 := by omega
        have HT2 := hide ht
        clear ht
        clear hL
        go_wp2
        go_ret
        refine ⟨?_, HO1.out⟩
        try rw [if_pos HT2.out]
        rfl
      · have ht' : ¬ (top : Int) < 2048 := by omega
        have HT2 := hide ht
        clear ht
        go_wp2
        go_ret
        refine ⟨?_, HO1.out⟩
        try rw [if_neg HT2.out]
        rfl
    case inl =>
      have hi : (k : Int) < n := by omega
      have hkx : L[k]? = some (L[k]'(by rw [HN.out]; exact hlt)) := List.getElem?_eq_getElem _
      generalize (L[k]'(by rw [HN.out]; exact hlt)) = x at hkx
      obtain ⟨g, o, rfl, _, hgl, hcx⟩ := hat.out k _ (ints_get (nats_get hkx))
      have hcx1 : w1.cell? ⟨g, o + k, none⟩ = some (.int .u64 x) := (cell_only HO1.out (a := ⟨g, o + k, none⟩) hgl (by simp)).trans hcx
      have hxt : (x : Int) ≤ top := by have := HTOP.out x (List.mem_of_getElem? hkx); omega
      have HM := hide (cntL_take top L k x hkx)
      have hcl : cntL top (L.take k) ≤ k := Nat.le_trans (cntL_le _ _) (List.length_take_le _ _)
      clear hkx hcx
      generalize cntL top (L.take k) = q at HM hcl ⊢
      by_cases hx : top - x < 2048
      · have hx' : (top : Int) - x < 2048 := by omega
        have HM' := hide (show cntL top (L.take (k + 1)) = q + 1 by rw [HM.out, if_pos hx])
        clear HM hx
        go_wp2
        go_round
        case rel => exact ⟨k + 1, by omega, by go_num, by rw [HM'.out]; go_num⟩
        case measure => simp [intOf]; omega
      · have hx' : ¬ (top : Int) - x < 2048 := by omega
        have HM' := hide (show cntL top (L.take (k + 1)) = q by rw [HM.out, if_neg hx, Nat.add_zero])
        clear HM hx
        go_wp2
        go_round
        case rel => exact ⟨k + 1, by omega, by go_num, by rw [HM'.out]⟩
        case measure => simp [intOf]; omega
end Go.Proofs.Ytokpdhcgclfmnaa

/-
  Routes: what they are; contracts of the reference's Routes and of the law's legs, by walking.
-/
import Derived.Test.YtkihjgcjapkgpaaSky4
import Derived.StillTailTactics
namespace Go.Proofs.Ytkihjgcjapkgpaa
open Go.RowKit Go.Deep

abbrev Lg := Int × Int × Int
def lgc (g : Lg) : List Value := [.int .i64 g.1, .int .i64 g.2.1, .int .i64 g.2.2]
def zg : Lg := (0, 0, 0)
/-- Where one is behind k legs. -/
def pos (s : Int × Int) (l : List Lg) : Nat → Int × Int
  | 0 => s
  | k + 1 => ((pos s l k).1 + (l.getD k zg).1 * (l.getD k zg).2.2, (pos s l k).2 + (l.getD k zg).2.1 * (l.getD k zg).2.2)
def legOk (g : Lg) : Bool := decide (-1000 ≤ g.1 ∧ g.1 ≤ 1000) && decide (-1000 ≤ g.2.1 ∧ g.2.1 ≤ 1000) && decide (1 ≤ g.2.2 ∧ g.2.2 ≤ 10000)
def lok (s : Int × Int) (l : List Lg) (k : Nat) : Bool := legOk (l.getD k zg) && okP (pos s l (k + 1))
def routesV (s : Int × Int) (l : List Lg) : Bool := okP s && (decide (l.length ≤ 64) && (List.range l.length).all (lok s l))
def Fit3 (g : Lg) : Prop := (-9223372036854775808 ≤ g.1 ∧ g.1 ≤ 9223372036854775807) ∧ (-9223372036854775808 ≤ g.2.1 ∧ g.2.1 ≤ 9223372036854775807) ∧ (-9223372036854775808 ≤ g.2.2 ∧ g.2.2 ≤ 9223372036854775807)

theorem routes_lok {s : Int × Int} {l : List Lg} (h : routesV s l = true) : okP s = true ∧ l.length ≤ 64 ∧ ∀ k, k < l.length → lok s l k = true := by
  unfold routesV at h
  rw [Bool.and_eq_true, Bool.and_eq_true, List.all_eq_true] at h
  exact ⟨h.1, of_decide_eq_true h.2.1, fun k hk => h.2.2 k (List.mem_range.2 hk)⟩
theorem routes_true {s : Int × Int} {l : List Lg} (h1 : okP s = true) (h2 : l.length ≤ 64) (h3 : ∀ k, k < l.length → lok s l k = true) : routesV s l = true := by
  unfold routesV
  rw [Bool.and_eq_true, Bool.and_eq_true, List.all_eq_true]
  exact ⟨h1, decide_eq_true h2, fun k hk => h3 k (List.mem_range.1 hk)⟩
theorem routes_false {s : Int × Int} {l : List Lg} {k : Nat} (hk : k < l.length) (h : lok s l k = false) : routesV s l = false := by
  rw [Bool.eq_false_iff]
  intro hr
  rw [(routes_lok hr).2.2 k hk] at h
  cases h
theorem routes_long {s : Int × Int} {l : List Lg} (hk : 64 < l.length) : routesV s l = false := by
  rw [Bool.eq_false_iff]
  intro hr
  have := (routes_lok hr).2.1
  omega
theorem routes_start {s : Int × Int} {l : List Lg} (h : okP s = false) : routesV s l = false := by
  unfold routesV
  rw [h]; rfl
theorem legOk_bd {g : Lg} (h : legOk g = true) : (-1000 ≤ g.1 ∧ g.1 ≤ 1000) ∧ (-1000 ≤ g.2.1 ∧ g.2.1 ≤ 1000) ∧ 1 ≤ g.2.2 ∧ g.2.2 ≤ 10000 := by
  unfold legOk at h
  rw [Bool.and_eq_true, Bool.and_eq_true] at h
  have h1 := of_decide_eq_true h.1.1
  have h2 := of_decide_eq_true h.1.2
  have h3 := of_decide_eq_true h.2
  exact ⟨h1, h2, h3⟩
theorem mul_bd {x s : Int} (h1 : -1000 ≤ x) (h2 : x ≤ 1000) (h3 : 0 ≤ s) (h4 : s ≤ 10000) : -10000000 ≤ x * s ∧ x * s ≤ 10000000 := by
  have a1 : x * s ≤ 1000 * s := Int.mul_le_mul_of_nonneg_right h2 h3
  have a2 : -1000 * s ≤ x * s := Int.mul_le_mul_of_nonneg_right h1 h3
  omega

/-- The cells of a leg in a slice of legs. -/
theorem lgs_cell {w : World} {N : List Nat} {g o n cap : Nat} {l : List Lg} (h : RdS 3 lgc w N (.slice (some ⟨g, o, none⟩) n cap) l) {i : Nat} (hi : i < l.length) :
    w.cell? ⟨g, o + i * 3, none⟩ = some (.int .i64 (l.getD i zg).1) ∧ w.cell? ⟨g, o + i * 3 + 1, none⟩ = some (.int .i64 (l.getD i zg).2.1) ∧ w.cell? ⟨g, o + i * 3 + 2, none⟩ = some (.int .i64 (l.getD i zg).2.2) := by
  have h1 := h.cell (get_lt l zg hi) (j := 0) (u := .int .i64 (l.getD i zg).1) rfl
  have h2 := h.cell (get_lt l zg hi) (j := 1) (u := .int .i64 (l.getD i zg).2.1) rfl
  have h3 := h.cell (get_lt l zg hi) (j := 2) (u := .int .i64 (l.getD i zg).2.2) rfl
  exact ⟨h1, by rw [Nat.add_assoc]; exact h2, by rw [Nat.add_assoc]; exact h3⟩

set_option maxRecDepth 100000 in
set_option maxHeartbeats 3200000 in
theorem routes_ref (w : World) (N : List Nat) (v : Value) (s : Int × Int) (l : List Lg) (hv : RdS 3 lgc w N v l) (hl : l.length ≤ 1000) (hfit : ∀ g ∈ l, Fit3 g) :
    Calls Try.prog 18 #[pt s, v] w (AndPost (routesV s l) w) := by
  obtain ⟨A, cap, rfl, hc, hm⟩ := hv.form
  unfold maxLen at hm
  have HV := hide hv
  obtain ⟨n, hn⟩ : ∃ n, n = l.length := ⟨_, rfl⟩
  have HN := hide hn
  rw [← hn] at hl hc HV ⊢
  have HFIT := hide hfit
  have HR := hide (show ∀ W p, _ from fun W p => refright_any W p)
  have HB0 := hide (Blk.new w 33 #[.int .i64 s.1, .int .i64 s.2])
  have HO0 := hide ((Only.refl [] w).alloc (.cells #[.int .i64 s.1, .int .i64 s.2] 33))
  unfold pt at HR ⊢
  clear hv hn hfit
  cases hs : okP s with
  | false =>
    have HF := hide (routes_start (l := l) hs)
    have HS := hide hs
    clear hs
    go_enter Try.func18, Try.ntmps18
    go_wp2_with (go_at_call 11; refine (HR.out _ s).mono ?_; rintro e w1 ⟨rfl, ho⟩; have HO1 := hide (HO0.out.trans ho); rw [HS.out]; clear ho)
    go_ret
    exact andpost HF.out HO1.out
  | true =>
  have HS := hide hs
  clear hs
  by_cases h64 : n ≤ 64
  case neg =>
    have HF := hide (routes_long (s := s) (l := l) (by rw [← HN.out]; omega))
    have h64' : (64 : Int) < n := by omega
    clear h64
    go_enter Try.func18, Try.ntmps18
    go_wp2_with (go_at_call 11; refine (HR.out _ s).mono ?_; rintro e w1 ⟨rfl, ho⟩; have HO1 := hide (HO0.out.trans ho); rw [HS.out]; clear ho)
    go_ret
    exact andpost HF.out HO1.out
  have h64' : ¬ (64 : Int) < n := by omega
  go_enter Try.func18, Try.ntmps18
  go_wp2_with (go_at_call 11; refine (HR.out _ s).mono ?_; rintro e w1 ⟨rfl, ho⟩; have HB1 := hide (HB0.out.only ho (by simp)); have HO1 := hide (HO0.out.trans ho); have k0 := HB1.out.cell 0; have k1 := HB1.out.cell 1; simp at k0 k1; rw [HS.out]; clear ho)
  obtain ⟨b, hb⟩ : ∃ b, b = w1.heap.size := ⟨_, rfl⟩
  have HBN := hide (Blk.new w1 33 #[.int .i64 s.1, .int .i64 s.2])
  have HON := hide (HO1.out.alloc (.cells #[.int .i64 s.1, .int .i64 s.2] 33))
  have hbw : w.heap.size ≤ w1.heap.size := HO1.out.size
  generalize (w1.alloc (.cells #[.int .i64 s.1, .int .i64 s.2] 33)) = w2 at *
  rw [← hb] at HBN hbw ⊢
  clear hb k0 k1
  go_loopw [6] (fun i wr => ∃ k : Nat, k ≤ n ∧ i = .int .i64 k ∧ Hid (∀ j, j < k → lok s l j = true) ∧ Hid (Blk wr b 33 #[.int .i64 (pos s l k).1, .int .i64 (pos s l k).2]) ∧ Hid (okP (pos s l k) = true) ∧ Hid (Only [] w wr)) (fun i _ => n - (intOf i).toNat)
  case atStart => exact ⟨0, Nat.zero_le _, rfl, hide (fun j hj => by omega), HBN, HS, HON⟩
  case round =>
    obtain ⟨k, hk, rfl, hok, hblk, hpos, ho⟩ := hrel
    by_cases hlt : k < n
    · have hlt' : (k : Int) < n := by omega
      obtain ⟨g, o, rfl, _, hg⟩ := HV.out.addr (by rw [← HN.out]; omega)
      obtain ⟨c1, c2, c3⟩ := lgs_cell (HV.out.only ho.out (by simp)) (show k < l.length by rw [← HN.out]; exact hlt)
      have hlk : lok s l k = (legOk (l.getD k zg) && okP (pos s l (k + 1))) := rfl
      have hpk : pos s l (k + 1) = ((pos s l k).1 + (l.getD k zg).1 * (l.getD k zg).2.2, (pos s l k).2 + (l.getD k zg).2.1 * (l.getD k zg).2.2) := rfl
      have HLK := hide hlk
      have HPK := hide hpk
      have hkl := hide (show k < l.length by rw [← HN.out]; exact hlt)
      clear hlk hpk
      generalize l.getD k zg = x at *
      generalize pos s l k = p at *
      obtain ⟨x1, x2, x3⟩ := x
      obtain ⟨p1, p2⟩ := p
      simp only at c1 c2 c3
      have q0 := hblk.out.cell 0
      have q1 := hblk.out.cell 1
      have z := hblk.out.frozen
      simp at q0 q1
      cases hlg : legOk (x1, x2, x3) with
      | false =>
        have HF := hide (routes_false (s := s) (l := l) hkl.out (by rw [HLK.out, hlg]; rfl))
        unfold legOk at hlg
        simp only at hlg
        by_cases g1 : -1000 ≤ x1 ∧ x1 ≤ 1000
        · by_cases g2 : -1000 ≤ x2 ∧ x2 ≤ 1000
          · have G1 := hide (decide_eq_true g1)
            have G2 := hide (decide_eq_true g2)
            have g3 : ¬ (1 ≤ x3 ∧ x3 ≤ 10000) := by
              rw [decide_eq_true g1, decide_eq_true g2] at hlg
              simp at hlg
              omega
            clear g1 g2 hlg
            by_cases g4 : x3 < 1
            · clear g3
              go_wp2_with (first
                | (go_at_call_of 42 (Value.int .i64 x1); refine (small_any _ x1).mono ?_; rw [G1.out]; rintro e w' ⟨rfl, rfl⟩)
                | (go_at_call_of 42 (Value.int .i64 x2); refine (small_any _ x2).mono ?_; rw [G2.out]; rintro e w' ⟨rfl, rfl⟩))
              go_ret
              exact andpost HF.out ho.out
            · have g5 : 10000 < x3 := by omega
              have g4' : decide (x3 < 1) = false := decide_eq_false g4
              clear g3
              go_wp2_with (first
                | (go_at_call_of 42 (Value.int .i64 x1); refine (small_any _ x1).mono ?_; rw [G1.out]; rintro e w' ⟨rfl, rfl⟩)
                | (go_at_call_of 42 (Value.int .i64 x2); refine (small_any _ x2).mono ?_; rw [G2.out]; rintro e w' ⟨rfl, rfl⟩))
              go_ret
              exact andpost HF.out ho.out
          · have G1 := hide (decide_eq_true g1)
            have G2 := hide (decide_eq_false g2)
            clear g1 g2 hlg
            go_wp2_with (first
              | (go_at_call_of 42 (Value.int .i64 x1); refine (small_any _ x1).mono ?_; rw [G1.out]; rintro e w' ⟨rfl, rfl⟩)
              | (go_at_call_of 42 (Value.int .i64 x2); refine (small_any _ x2).mono ?_; rw [G2.out]; rintro e w' ⟨rfl, rfl⟩))
            go_ret
            exact andpost HF.out ho.out
        · have G1 := hide (decide_eq_false g1)
          clear g1 hlg
          go_wp2_with (go_at_call_of 42 (Value.int .i64 x1); refine (small_any _ x1).mono ?_; rw [G1.out]; rintro e w' ⟨rfl, rfl⟩)
          go_ret
          exact andpost HF.out ho.out
      | true =>
        obtain ⟨g1, g2, g3, g4⟩ := legOk_bd hlg
        simp only at g1 g2 g3 g4
        have G1 := hide (decide_eq_true g1)
        have G2 := hide (decide_eq_true g2)
        have HLG := hide hlg
        have m1 := mul_bd g1.1 g1.2 (by omega) g4
        have m2 := mul_bd g2.1 g2.2 (by omega) g4
        have hpb := okP_bd hpos.out
        simp only at hpb
        obtain ⟨m11, m12⟩ := m1
        obtain ⟨m21, m22⟩ := m2
        obtain ⟨⟨b11, b12⟩, b21, b22⟩ := hpb
        clear hlg g1 g2
        go_upto_region 9 with (first
          | (go_at_call_of 42 (Value.int .i64 x1); refine (small_any _ x1).mono ?_; rw [G1.out]; rintro e w' ⟨rfl, rfl⟩)
          | (go_at_call_of 42 (Value.int .i64 x2); refine (small_any _ x2).mono ?_; rw [G2.out]; rintro e w' ⟨rfl, rfl⟩))
        go_still_tail 29, (by kernel_rfl)
        change wpList _ _ _ _ _ wr.drew
        have HBK := hide (((hblk.out.set_ 0 (.int .i64 (p1 + x1 * x3))).set_ 1 (.int .i64 (p2 + x2 * x3))).drew)
        have HOK := hide (((ho.out.mono (S' := [b]) (by simp)).setCell (p := ⟨b, 0, none⟩) (.inl (by simp)) (.int .i64 (p1 + x1 * x3))).setCell (p := ⟨b, 1, none⟩) (.inl (by simp)) (.int .i64 (p2 + x2 * x3))).drew
        have HBW := hide hbw
        cases hq : okP (p1 + x1 * x3, p2 + x2 * x3) with
        | false =>
          have HF := hide (routes_false (s := s) (l := l) hkl.out (by rw [HLK.out, HPK.out, HLG.out]; exact hq))
          have HQ := hide hq
          clear hq
          go_wp2_with (go_at_call 11; refine (HR.out _ (p1 + x1 * x3, p2 + x2 * x3)).mono ?_; rintro e w3 ⟨rfl, ho3⟩; have HO3 := hide (HOK.out.trans (ho3.mono (by simp))); rw [HQ.out]; clear ho3)
          go_ret
          exact andpost HF.out (HO3.out.mono (by simp; exact HBW.out))
        | true =>
          have HQ := hide hq
          clear hq
          go_wp2_with (go_at_call 11; refine (HR.out _ (p1 + x1 * x3, p2 + x2 * x3)).mono ?_; rintro e w3 ⟨rfl, ho3⟩; have HB3 := hide (HBK.out.only ho3 (by simp)); have HO3 := hide (HOK.out.trans (ho3.mono (by simp))); rw [HQ.out]; clear ho3)
          go_roundw
          case rel => exact ⟨k + 1, by omega, by go_num, hide (fun j hj => by
            rcases Nat.lt_or_ge j k with h | h
            · exact hok.out j h
            · rw [show j = k by omega, HLK.out, HPK.out, HLG.out]; exact HQ.out), hide (by rw [HPK.out]; exact HB3.out), hide (by rw [HPK.out]; exact HQ.out), hide (HO3.out.mono (by simp; exact HBW.out))⟩
          case measure => simp [intOf]; omega
    · have hlt' : ¬ (k : Int) < n := by omega
      obtain rfl : k = n := by omega
      have HT := hide (routes_true HS.out (by rw [← HN.out]; exact h64) (fun j hj => hok.out j (by rw [HN.out]; exact hj)))
      go_wp2_with fail
      go_ret
      exact andpost HT.out ho.out
end Go.Proofs.Ytkihjgcjapkgpaa

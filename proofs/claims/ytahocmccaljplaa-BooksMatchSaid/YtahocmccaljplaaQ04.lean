/-
  Walks and plain words (texts Bk8, Bk9, Bka). No condition beyond those that each theorem states.
-/
import Derived.Test.YtahocmccaljplaaQ03
namespace Go.Proofs.Ytahocmccaljplaa
section
open Go.RowKit Go.Deep Go.Maps Go.WideMaps

theorem ints_snocB (k : IntKind) (xs : List Int) (y : Int) : ints k xs ++ [.int k y] = ints k (xs ++ [y]) := by simp [ints]
theorem own_geB {w : World} {base e size : Nat} {v : Value} {n : Nat} {xs : List Value} (h : w.ownsRow base e size v n xs) {g : Nat} (hg : v.ownBlock = some g) : base ≤ g := by
  rcases h.2 with ⟨rfl, _⟩ | ⟨g', _, _, rfl, hb, _⟩
  · cases hg
  · cases hg; exact hb
theorem wpList_int_append {W : World} {y : Int} {ops : Array Oper} {rest : List Oper} {o : Oper} {a : Act} {Q : Exit → Act → World → Prop} (hgd : o.guard = none) (s x : Operand)
    (ho : o.op = .call { callee := .builtin .append, args := #[s, x], argTypes := #[29, 29] }) (base : Nat) (v : Value) (xs : List Int) (hs : a.eval s = v) (hown : W.ownsRow base 3 1 v xs.length (ints .i64 xs)) (hl : xs.length ≤ 100000) (hbase : base ≤ W.heap.size)
    (hx : a.eval x = .slice (some ⟨W.heap.size, 0, none⟩) 1 1)
    (hK : ∀ v' w', w'.ownsRow base 3 1 v' (xs ++ [y]).length (ints .i64 (xs ++ [y])) → Only [base] W w' ∨ True → (∀ S a', Only S a' W → (∀ q, base ≤ q → q ∈ S ∨ a'.heap.size ≤ q) → Only S a' w') → (v'.ownBlock = v.ownBlock ∨ v'.ownBlock = some (W.heap.size + 1)) → wpList Try.prog ops Q rest (a.put o.dst v') w') : wpList Try.prog ops Q (o :: rest) a (W.alloc (.cells #[.int .i64 y] 3)) := by
  obtain ⟨i, hi, hz, hs1, hby⟩ := info_int
  refine wpList_append_any (P := Try.prog) _ hgd s x 29 ho base 3 i (.int .i64 0) 1 8 Try.underlying29 hi hz hs1 hby rfl (by decide) v xs.length (ints .i64 xs) hs (hown.alloc _) (W.heap.size + 1) (some ⟨W.heap.size, 0, none⟩) 1 1 [.int .i64 y] hx (reads_one _ _ _ _ (by omega)) (by simp [Value.oneCell']) (by unfold maxLen; omega) (by omega) (by simp; omega) ?_
  intro v' w' h1 h2 h3
  rw [ints_snocB] at h1
  refine hK v' w' (by rw [List.length_append]; exact h1) (.inr trivial) (fun S a' hoa hq => (hoa.alloc _).grown h2 (fun k hk => hq k (own_geB hown hk))) (by rw [World.size_alloc] at h3; exact h3)
def aloneI (l : List Rc) (kind : Int) (i : Nat) : List Int := (aloneN l kind i).map fun x : Nat => (x : Int)
theorem ite_len (c : Prop) [Decidable c] (a b : List Nat) (n : Nat) (ha : a.length ≤ n) (hb : b.length ≤ n) : (if c then a else b).length ≤ n := by
  by_cases h : c
  · rw [if_pos h]; exact ha
  · rw [if_neg h]; exact hb
theorem aloneN_len (l : List Rc) (kind : Int) : ∀ i, (aloneN l kind i).length ≤ i
  | 0 => Nat.le_refl _
  | i + 1 => by
    have := aloneN_len l kind i
    rw [aloneN]
    exact ite_len _ _ _ _ (by rw [List.length_append, List.length_singleton]; omega) (by omega)
theorem aloneI_len (l : List Rc) (kind : Int) (i : Nat) : (aloneI l kind i).length ≤ i := by
  unfold aloneI
  rw [List.length_map]
  exact aloneN_len l kind i
theorem aloneI_yes {l : List Rc} {kind : Int} {i : Nat} {y : Rc} (hy : l[i]? = some y) (h1 : (matchM l).getD i 0 < 0) (h2 : y.k = kind) : aloneI l kind (i + 1) = aloneI l kind i ++ [(i : Int)] := by
  unfold aloneI
  rw [aloneN, if_pos ⟨h1, by rw [hy]; exact h2⟩, List.map_append]
  rfl
theorem aloneI_no {l : List Rc} {kind : Int} {i : Nat} {y : Rc} (hy : l[i]? = some y) (h : ¬ ((matchM l).getD i 0 < 0 ∧ y.k = kind)) : aloneI l kind (i + 1) = aloneI l kind i := by
  unfold aloneI
  rw [aloneN, if_neg (by rw [hy]; exact h)]
theorem match_cell {w : World} {A : Option Addr} {n c : Nat} {l : List Rc} (h : Rd w [] (.slice A n c) (ints .i64 (matchM l))) {i : Nat} (hi : i < l.length) : ∃ g o, A = some ⟨g, o, none⟩ ∧ w.cell? ⟨g, o + i, none⟩ = some (.int .i64 ((matchM l).getD i 0)) := by
  obtain ⟨_, _, _, h2⟩ := h.at_
  have hlt : i < (matchM l).length := by rw [matchM_len]; exact hi
  obtain ⟨g, o, hA, _, _, hc⟩ := h2 i (.int .i64 ((matchM l).getD i 0)) (by simp [ints, List.getElem?_eq_getElem hlt, List.getD_eq_getElem?_getD])
  exact ⟨g, o, hA, hc⟩
def IntsPost (xs : List Int) (w : World) (e : Ending) (w' : World) : Prop := ∃ v, e = .returned v ∧ Rd w' [] v (ints .i64 xs) ∧ Only [] w w'
set_option maxRecDepth 100000 in
set_option maxHeartbeats 12800000 in
theorem alone_any (w : World) (A : Option Addr) (cap : Nat) (L : List (Rc × Value)) (kind : Int) (hL : RdS 5 rkC w [] (.slice A L.length cap) L) (hfit : ∀ r ∈ L, RkFit w r) (hl : L.length ≤ 60) (hb : ∀ r ∈ L, r.1.b.length ≤ 100) :
    Calls Try.prog 16 #[.slice A L.length cap, .int .i64 kind] w (IntsPost (aloneI (L.map Prod.fst) kind L.length) w) := by
  have HM := hide (Match_any w A cap L hL hfit hl hb)
  unfold MatchPost at HM
  obtain ⟨n, hn⟩ : ∃ n, n = L.length := ⟨_, rfl⟩
  obtain ⟨l, hll⟩ : ∃ l, l = L.map Prod.fst := ⟨_, rfl⟩
  have HLN := hide (show l.length = n by rw [hll, hn, List.length_map])
  have HN := hide hn
  have HLL := hide hll
  rw [← hn] at hL hl HM ⊢
  rw [← hll] at HM ⊢
  have HL := hide hL
  have HFIT := hide hfit
  have HML := hide (show (matchM l).length = n by rw [matchM_len, HLN.out])
  clear hL hfit hb hn hll
  go_enter Try.func16, Try.ntmps16
  go_wp2_with (go_at_call 6; refine HM.out.mono ?_; rintro e w1 ⟨v, rfl, hr, ho⟩; obtain ⟨Am, cm, rfl, _, _⟩ := hr.formi; rw [HML.out] at hr ⊢; have HR := hide hr; have HO := hide ho; clear hr ho HM)
  obtain ⟨B, hB⟩ : ∃ B, B = w1.heap.size := ⟨_, rfl⟩
  have HB := hide hB
  have HWB := hide (show w.heap.size ≤ B by rw [hB]; exact HO.out.size)
  clear hB
  go_loopw [11, 5] (fun iv pv wr => ∃ i : Nat, i ≤ n ∧ iv = .int .i64 i ∧ Hid (wr.ownsRow B 3 1 pv (aloneI l kind i).length (ints .i64 (aloneI l kind i))) ∧ Hid (Only [] w1 wr)) (fun iv _ _ => n - (intOf iv).toNat)
  case atStart => exact ⟨0, Nat.zero_le _, rfl, hide (World.ownsRow_nil _ _ _ _), hide (Only.refl _ _)⟩
  case round =>
    obtain ⟨i, hin, rfl, HP, HOX⟩ := hrel
    by_cases hi : i < n
    case neg =>
      obtain rfl : i = n := by omega
      have hnI : ¬ (i : Int) < (i : Int) := by omega
      go_wp2_with fail
      go_ret
      exact ⟨_, rfl, (Rd.of_own HP.out (by simp)).1, HO.out.trans HOX.out⟩
    case pos =>
      have hiI : (i : Int) < (n : Int) := by omega
      obtain ⟨r, hr⟩ : ∃ r, L[i]? = some r := ⟨_, List.getElem?_eq_getElem (by rw [← HN.out]; exact hi)⟩
      obtain ⟨⟨k, a, p, b, nw⟩, v⟩ := r
      have HY := hide (show l[i]? = some ⟨k, a, p, b, nw⟩ by rw [HLL.out, List.getElem?_map, hr]; rfl)
      obtain ⟨g, o, hA, _, hglt⟩ := HL.out.addr (by have := HN.out; omega)
      subst hA
      obtain ⟨c0, -, -, -, -⟩ := rec_get hr ((HL.out.only HO.out (by simp)).only HOX.out (by simp))
      obtain ⟨gm, om, hAm, cmm⟩ := match_cell (HR.out.only HOX.out (by simp)) (show i < l.length by rw [HLN.out]; exact hi)
      subst hAm
      simp only at c0
      have HLB := hide (aloneI_len l kind i)
      obtain ⟨mi, hmi⟩ : ∃ mi, mi = (matchM l).getD i 0 := ⟨_, rfl⟩
      rw [← hmi] at cmm
      have HMI := hide hmi
      clear hmi hr
      by_cases hm : mi < 0
      · by_cases hk : k = kind
        · have t1 : (k == kind) = true := by rw [beq_iff_eq]; exact hk
          have HE := hide (aloneI_yes HY.out (HMI.out ▸ hm) hk)
          clear hk
          go_wp2_with (at_builtin; refine wpList_int_append rfl (.tmp 27) (.tmp 29) rfl B _ (aloneI l kind i) rfl HP.out (by have := HLB.out; omega) (by have := HOX.out.size; have := HB.out; omega) rfl ?_; intro v2 w2 h1 _ h2 _; have HP2 := hide h1; have HO2 := hide (h2 [] w1 HOX.out (fun q hq => .inr (by have := HB.out; omega))); clear h1 h2; rw [← HE.out] at HP2)
          exact ⟨⟨i + 1, by omega, congrArg (Value.int .i64) (by omega), HP2, HO2⟩, by simp only [intOf]; omega⟩
        · have t1 : (k == kind) = false := by rw [beq_eq_false_iff_ne]; exact hk
          have HE := hide (aloneI_no HY.out (fun h => hk h.2) (kind := kind))
          clear hk
          rw [← HE.out] at HP
          go_wp2_with fail
          exact ⟨⟨i + 1, by omega, congrArg (Value.int .i64) (by omega), HP, HOX⟩, by simp only [intOf]; omega⟩
      · have HE := hide (aloneI_no (kind := kind) HY.out (fun h => hm (by rw [HMI.out]; exact h.1)))
        rw [← HE.out] at HP
        go_wp2_with fail
        exact ⟨⟨i + 1, by omega, congrArg (Value.int .i64) (by omega), HP, HOX⟩, by simp only [intOf]; omega⟩
set_option maxRecDepth 100000 in
theorem strange_any (w : World) (A : Option Addr) (cap : Nat) (L : List (Rc × Value)) (hL : RdS 5 rkC w [] (.slice A L.length cap) L) (hfit : ∀ r ∈ L, RkFit w r) (hl : L.length ≤ 60) (hb : ∀ r ∈ L, r.1.b.length ≤ 100) :
    Calls Try.prog 9 #[.slice A L.length cap] w (IntsPost (aloneI (L.map Prod.fst) 2 L.length) w) := by
  have HM := hide (alone_any w A cap L 2 hL hfit hl hb)
  unfold IntsPost at HM ⊢
  generalize aloneI (L.map Prod.fst) 2 L.length = xs at *
  generalize L.length = n at *
  clear hL hfit hb hl
  go_enter Try.func9, Try.ntmps9
  go_wp2_with (go_at_call 16; refine HM.out.mono ?_; rintro e w1 ⟨v, rfl, hr, ho⟩; have HR := hide hr; have HO := hide ho; clear hr ho HM)
  go_ret
  exact ⟨_, rfl, HR.out, HO.out⟩
set_option maxRecDepth 100000 in
theorem lost_any (w : World) (A : Option Addr) (cap : Nat) (L : List (Rc × Value)) (hL : RdS 5 rkC w [] (.slice A L.length cap) L) (hfit : ∀ r ∈ L, RkFit w r) (hl : L.length ≤ 60) (hb : ∀ r ∈ L, r.1.b.length ≤ 100) :
    Calls Try.prog 11 #[.slice A L.length cap] w (IntsPost (aloneI (L.map Prod.fst) 1 L.length) w) := by
  have HM := hide (alone_any w A cap L 1 hL hfit hl hb)
  unfold IntsPost at HM ⊢
  generalize aloneI (L.map Prod.fst) 1 L.length = xs at *
  generalize L.length = n at *
  clear hL hfit hb hl
  go_enter Try.func11, Try.ntmps11
  go_wp2_with (go_at_call 16; refine HM.out.mono ?_; rintro e w1 ⟨v, rfl, hr, ho⟩; have HR := hide hr; have HO := hide ho; clear hr ho HM)
  go_ret
  exact ⟨_, rfl, HR.out, HO.out⟩
end
section
open Go.RowKit Go.Deep Go.Maps Go.WideMaps

theorem slow_skip {l : List Rc} {i : Nat} {y : Rc} (hy : l[i]? = some y) (h : ¬ (0 ≤ (matchM l).getD i 0 ∧ y.k = 2)) : slowN l (i + 1) = slowN l i := by
  rw [slowN, hy]
  simp only
  rw [if_neg h]
theorem slow_more {l : List Rc} {i : Nat} {y z : Rc} {k : Nat} (hy : l[i]? = some y) (hm : (matchM l).getD i 0 = (k : Int)) (hk : y.k = 2) (hz : l[k]? = some z) (h : (slowN l i).2 = false ∨ (slowN l i).1 < y.n - z.n) : slowN l (i + 1) = (y.n - z.n, true) := by
  rw [slowN, hy]
  simp only
  rw [if_pos ⟨by omega, hk⟩, hm, show nowAt l (k : Int) = z.n by unfold nowAt; rw [Int.toNat_natCast, hz], if_pos h]
theorem slow_less {l : List Rc} {i : Nat} {y z : Rc} {k : Nat} (hy : l[i]? = some y) (hm : (matchM l).getD i 0 = (k : Int)) (hk : y.k = 2) (hz : l[k]? = some z) (h : ¬ ((slowN l i).2 = false ∨ (slowN l i).1 < y.n - z.n)) : slowN l (i + 1) = slowN l i := by
  rw [slowN, hy]
  simp only
  rw [if_pos ⟨by omega, hk⟩, hm, show nowAt l (k : Int) = z.n by unfold nowAt; rw [Int.toNat_natCast, hz], if_neg h]
theorem match_part {l : List Rc} {i : Nat} (hi : i < l.length) (h : 0 ≤ (matchM l).getD i 0) : ∃ k : Nat, (matchM l).getD i 0 = k ∧ k < l.length := by
  have hlt : i < (matchM l).length := by rw [matchM_len]; exact hi
  have e : (matchM l)[i]? = some ((matchM l).getD i 0) := by rw [List.getD_eq_getElem?_getD, List.getElem?_eq_getElem hlt]; rfl
  obtain ⟨k, h1, h2, _⟩ := match_back l e h
  exact ⟨k, h1, h2⟩
def SlowPost (r : Int × Bool) (w : World) (e : Ending) (w' : World) : Prop := e = .returned (.tuple #[.int .i64 r.1, .bool r.2]) ∧ Only [] w w'
set_option maxRecDepth 100000 in
set_option maxHeartbeats 12800000 in
theorem slowest_any (w : World) (A : Option Addr) (cap : Nat) (L : List (Rc × Value)) (hL : RdS 5 rkC w [] (.slice A L.length cap) L) (hfit : ∀ r ∈ L, RkFit w r) (hl : L.length ≤ 60) (hb : ∀ r ∈ L, r.1.b.length ≤ 100) (ht : ∀ r ∈ L, 0 ≤ r.1.n ∧ r.1.n ≤ 1125899906842624) :
    Calls Try.prog 12 #[.slice A L.length cap] w (SlowPost (slowN (L.map Prod.fst) L.length) w) := by
  have HM := hide (Match_any w A cap L hL hfit hl hb)
  unfold MatchPost at HM
  obtain ⟨n, hn⟩ : ∃ n, n = L.length := ⟨_, rfl⟩
  obtain ⟨l, hll⟩ : ∃ l, l = L.map Prod.fst := ⟨_, rfl⟩
  have HLN := hide (show l.length = n by rw [hll, hn, List.length_map])
  have HN := hide hn
  have HLL := hide hll
  rw [← hn] at hL hl HM ⊢
  rw [← hll] at HM ⊢
  have HL := hide hL
  have HT := hide ht
  have HML := hide (show (matchM l).length = n by rw [matchM_len, HLN.out])
  clear hL hfit hb hn hll ht
  go_enter Try.func12, Try.ntmps12
  go_wp2_with (go_at_call 6; refine HM.out.mono ?_; rintro e w1 ⟨v, rfl, hr, ho⟩; obtain ⟨Am, cm, rfl, _, _⟩ := hr.formi; rw [HML.out] at hr ⊢; have HR := hide hr; have HO := hide ho; clear hr ho HM)
  go_loopw [12, 4, 5] (fun iv pv qv wr => ∃ (i : Nat) (x : Int) (f : Bool), i ≤ n ∧ iv = .int .i64 i ∧ pv = .int .i64 x ∧ qv = .bool f ∧ Hid (slowN l i = (x, f)) ∧ Hid (Only [] w1 wr)) (fun iv _ _ _ => n - (intOf iv).toNat)
  case atStart => exact ⟨0, 0, false, Nat.zero_le _, rfl, rfl, rfl, hide rfl, hide (Only.refl _ _)⟩
  case round =>
    obtain ⟨i, x, f, hin, rfl, rfl, rfl, HS, HOX⟩ := hrel
    by_cases hi : i < n
    case neg =>
      obtain rfl : i = n := by omega
      have hnI : ¬ (i : Int) < (i : Int) := by omega
      go_wp2_with fail
      go_ret2
      unfold SlowPost
      rw [HS.out]
      exact ⟨rfl, HO.out.trans HOX.out⟩
    case pos =>
      have hiI : (i : Int) < (n : Int) := by omega
      obtain ⟨r, hr⟩ : ∃ r, L[i]? = some r := ⟨_, List.getElem?_eq_getElem (by rw [← HN.out]; exact hi)⟩
      obtain ⟨⟨k, a, p, b, nw⟩, v⟩ := r
      have HY := hide (show l[i]? = some ⟨k, a, p, b, nw⟩ by rw [HLL.out, List.getElem?_map, hr]; rfl)
      obtain ⟨g, o, hA, _, hglt⟩ := HL.out.addr (by have := HN.out; omega)
      subst hA
      obtain ⟨c0, -, -, -, c4⟩ := rec_get hr ((HL.out.only HO.out (by simp)).only HOX.out (by simp))
      obtain ⟨gm, om, hAm, cmm⟩ := match_cell (HR.out.only HOX.out (by simp)) (show i < l.length by rw [HLN.out]; exact hi)
      subst hAm
      obtain ⟨tn0, tn1⟩ := HT.out _ (List.mem_of_getElem? hr)
      simp only at c0 c4 tn0 tn1
      have HTN := hide (And.intro tn0 tn1)
      clear tn0 tn1
      obtain ⟨mi, hmi⟩ : ∃ mi, mi = (matchM l).getD i 0 := ⟨_, rfl⟩
      rw [← hmi] at cmm
      have HMI := hide hmi
      clear hmi hr
      by_cases hm : mi < 0
      · have HE := hide (slow_skip HY.out (fun h => by have := h.1; rw [← HMI.out] at this; omega))
        have HS2 := hide (HE.out.trans HS.out)
        go_wp2_with fail
        exact ⟨⟨i + 1, x, f, by omega, congrArg (Value.int .i64) (by omega), rfl, rfl, HS2, HOX⟩, by simp only [intOf]; omega⟩
      · by_cases hk : k = 2
        · have t1 : (k != 2) = false := by rw [bne_eq_false_iff_eq]; exact hk
          obtain ⟨q, hq, hqn⟩ := match_part (show i < l.length by rw [HLN.out]; exact hi) (by rw [← HMI.out]; omega)
          obtain rfl : mi = (q : Int) := by rw [HMI.out]; exact hq
          obtain ⟨r2, hr2⟩ : ∃ r, L[q]? = some r := ⟨_, List.getElem?_eq_getElem (by rw [← HN.out, ← HLN.out]; exact hqn)⟩
          obtain ⟨⟨k2, a2, p2, b2, n2⟩, v2⟩ := r2
          have HZ := hide (show l[q]? = some ⟨k2, a2, p2, b2, n2⟩ by rw [HLL.out, List.getElem?_map, hr2]; rfl)
          obtain ⟨-, -, -, -, d4⟩ := rec_get hr2 ((HL.out.only HO.out (by simp)).only HOX.out (by simp))
          obtain ⟨sn0, sn1⟩ := HT.out _ (List.mem_of_getElem? hr2)
          simp only at d4 sn0 sn1
          have hqI : (q : Int) < (n : Int) := by have := HLN.out; omega
          have hsub : IntKind.i64.wrap (nw - n2) = nw - n2 := by have := HTN.out; rw [IntWalk.i64_in _ (by omega)]
          have HK := hide hk
          clear hr2 sn0 sn1 hk hq
          go_upto_region 6 with fail
          go_quiet (fail)
          obtain ⟨d, hd⟩ : ∃ d, d = nw - n2 := ⟨_, rfl⟩
          rw [← hd] at hsub ⊢
          have HD := hide hd
          clear hd hsub
          have HMQ := hide (HMI.out.symm)
          replace HOX := hide (HOX.out.drewN nq)
          cases f with
          | false =>
            have HS2 := hide (show slowN l (i + 1) = (d, true) by rw [slow_more HY.out HMQ.out HK.out HZ.out (.inl (by rw [HS.out])), HD.out])
            clear HS
            go_wp2_with fail
            exact ⟨⟨i + 1, d, true, by omega, congrArg (Value.int .i64) (by omega), rfl, rfl, HS2, HOX⟩, by simp only [intOf]; omega⟩
          | true =>
            by_cases hx : x < d
            · have HS2 := hide (show slowN l (i + 1) = (d, true) by rw [slow_more HY.out HMQ.out HK.out HZ.out (.inr (by rw [HS.out]; show x < nw - n2; rw [← HD.out]; exact hx)), HD.out])
              clear HS
              go_wp2_with fail
              exact ⟨⟨i + 1, d, true, by omega, congrArg (Value.int .i64) (by omega), rfl, rfl, HS2, HOX⟩, by simp only [intOf]; omega⟩
            · have HS2 := hide (show slowN l (i + 1) = (x, true) by
                rw [slow_less HY.out HMQ.out HK.out HZ.out, HS.out]
                rw [HS.out]
                rintro (h | h)
                · cases h
                · refine hx ?_
                  rw [HD.out]
                  exact h)
              clear HS
              go_wp2_with fail
              exact ⟨⟨i + 1, x, true, by omega, congrArg (Value.int .i64) (by omega), rfl, rfl, HS2, HOX⟩, by simp only [intOf]; omega⟩
        · have t1 : (k != 2) = true := by rw [bne_iff_ne]; exact hk
          have HE := hide (slow_skip HY.out (fun h => hk h.2))
          have HS2 := hide (HE.out.trans HS.out)
          clear hk
          go_wp2_with fail
          exact ⟨⟨i + 1, x, f, by omega, congrArg (Value.int .i64) (by omega), rfl, rfl, HS2, HOX⟩, by simp only [intOf]; omega⟩
end
section
open Go.RowKit Go.Deep Go.Maps Go.WideMaps

set_option maxRecDepth 100000 in
theorem flow_fields : Try.prog.underlying 43 = some (.struct (Try.prog.fieldsOf 43)) := by kernel_rfl
set_option maxRecDepth 100000 in
theorem flow_eql (x y f t : Int) (w : World) : (binOp .eql 43 (.agg #[.int .i64 x, .int .i64 y]) (.agg #[.int .i64 f, .int .i64 t])).run Try.prog w = .ok (.bool (decide (x = f ∧ y = t))) w := by
  rw [run_eql_struct, run_equalIn_agg w 9999 _ _ _ flow_fields (by kernel_rfl)]
  simp [Program.fieldsOf, Try.underlying43, Op.eqFields, go_sem]
  by_cases h : x = f
  · by_cases h2 : y = t
    · simp [h, h2]
    · simp [h, h2]
  · simp [h]
theorem flow_neq (x y f t : Int) (w : World) : (binOp .neq 43 (.agg #[.int .i64 x, .int .i64 y]) (.agg #[.int .i64 f, .int .i64 t])).run Try.prog w = .ok (.bool (!decide (x = f ∧ y = t))) w := by
  have h := flow_eql x y f t w
  rw [run_eql_struct] at h
  rw [run_neq_struct]
  generalize (Op.equalIn 10000 43 (.agg #[.int .i64 x, .int .i64 y]) (.agg #[.int .i64 f, .int .i64 t])).run Try.prog w = R at *
  cases R with
  | ok b w1 =>
    simp only [Result.andThen_ok] at h ⊢
    injection h with h1 h2
    injection h1 with h1
    rw [h1, h2]
  | halt x w1 => simp [Result.andThen] at h
theorem flow_take {l : List Rc} {i : Nat} {y : Rc} {f t : Int} (hy : l[i]? = some y) (h : y.k = 1 ∧ y.a = f ∧ y.p = t) : flowN l f t (i + 1) = ((flowN l f t i).1 + 1, (flowN l f t i).2.1, (flowN l f t i).2.2) := by
  rw [flowN, hy]; simp only; rw [if_pos h]
theorem flow_put {l : List Rc} {i : Nat} {y : Rc} {f t : Int} (hy : l[i]? = some y) (h : y.k = 2 ∧ y.a = t ∧ y.p = f) : flowN l f t (i + 1) = ((flowN l f t i).1, (flowN l f t i).2.1 + 1, (flowN l f t i).2.2 + y.b.length) := by
  rw [flowN, hy]; simp only; rw [if_neg (by omega), if_pos h]
theorem flow_skip {l : List Rc} {i : Nat} {y : Rc} {f t : Int} (hy : l[i]? = some y) (h1 : ¬ (y.k = 1 ∧ y.a = f ∧ y.p = t)) (h2 : ¬ (y.k = 2 ∧ y.a = t ∧ y.p = f)) : flowN l f t (i + 1) = flowN l f t i := by
  rw [flowN, hy]; simp only; rw [if_neg h1, if_neg h2]
theorem flow_le {l : List Rc} (f t : Int) (hb : ∀ y ∈ l, y.b.length ≤ 100) : ∀ i, (flowN l f t i).1 ≤ i ∧ (flowN l f t i).2.1 ≤ i ∧ (flowN l f t i).2.2 ≤ 100 * i
  | 0 => by simp [flowN]
  | i + 1 => by
    have ih := flow_le f t hb i
    cases hy : l[i]? with
    | none => rw [flowN, hy]; simp only; omega
    | some y =>
      have hbl := hb y (List.mem_of_getElem? hy)
      by_cases h1 : y.k = 1 ∧ y.a = f ∧ y.p = t
      · rw [flow_take hy h1]; simp only; omega
      · by_cases h2 : y.k = 2 ∧ y.a = t ∧ y.p = f
        · rw [flow_put hy h2]; simp only; omega
        · rw [flow_skip hy h1 h2]; omega
def FlPost (r : Nat × Nat × Nat) (w : World) (e : Ending) (w' : World) : Prop := e = .returned (.tuple #[.int .i64 r.1, .int .i64 r.2.1, .int .i64 r.2.2]) ∧ Only [] w w'
set_option maxRecDepth 100000 in
set_option maxHeartbeats 12800000 in
theorem flow_any (w : World) (A : Option Addr) (cap : Nat) (L : List (Rc × Value)) (f t : Int) (hL : RdS 5 rkC w [] (.slice A L.length cap) L) (hfit : ∀ r ∈ L, RkFit w r) (hl : L.length ≤ 60) (hb : ∀ r ∈ L, r.1.b.length ≤ 100) :
    Calls Try.prog 13 #[.slice A L.length cap, .int .i64 f, .int .i64 t] w (FlPost (flowN (L.map Prod.fst) f t L.length) w) := by
  obtain ⟨n, hn⟩ : ∃ n, n = L.length := ⟨_, rfl⟩
  obtain ⟨l, hll⟩ : ∃ l, l = L.map Prod.fst := ⟨_, rfl⟩
  have HLN := hide (show l.length = n by rw [hll, hn, List.length_map])
  have HN := hide hn
  have HLL := hide hll
  rw [← hn] at hL hl ⊢
  rw [← hll]
  have HL := hide hL
  have HFIT := hide hfit
  have HB := hide hb
  have HLE := hide (flow_le (l := l) f t (by rw [hll]; intro y hy; obtain ⟨r, hr, rfl⟩ := List.mem_map.1 hy; exact hb r hr))
  have FE := hide (fun x y W => flow_neq x y f t W)
  clear hL hfit hb hn hll
  go_enter Try.func13, Try.ntmps13
  go_wp2_with fail
  go_loopw [15, 6, 7, 8] (fun iv p1 p2 p3 wr => ∃ (i x1 x2 x3 : Nat), i ≤ n ∧ iv = .int .i64 i ∧ p1 = .int .i64 x1 ∧ p2 = .int .i64 x2 ∧ p3 = .int .i64 x3 ∧ Hid (flowN l f t i = (x1, x2, x3)) ∧ Hid (Only [] w wr)) (fun iv _ _ _ _ => n - (intOf iv).toNat)
  case atStart => exact ⟨0, 0, 0, 0, Nat.zero_le _, rfl, rfl, rfl, rfl, hide rfl, hide (Only.refl _ _)⟩
  case round =>
    obtain ⟨i, x1, x2, x3, hin, rfl, rfl, rfl, rfl, HS, HO⟩ := hrel
    by_cases hi : i < n
    case neg =>
      obtain rfl : i = n := by omega
      have hnI : ¬ (i : Int) < (i : Int) := by omega
      go_wp2_with fail
      go_ret3
      unfold FlPost
      rw [HS.out]
      exact ⟨rfl, HO.out⟩
    case pos =>
      have hiI : (i : Int) < (n : Int) := by omega
      obtain ⟨r, hr⟩ : ∃ r, L[i]? = some r := ⟨_, List.getElem?_eq_getElem (by rw [← HN.out]; exact hi)⟩
      obtain ⟨⟨k, a, p, b, nw⟩, v⟩ := r
      have hmem := List.mem_of_getElem? hr
      have HLI := hide hr
      have HY := hide (show l[i]? = some ⟨k, a, p, b, nw⟩ by rw [HLL.out, List.getElem?_map, hr]; rfl)
      obtain ⟨hrd, wk, wa, wp, _⟩ := HFIT.out _ hmem
      simp only at hrd
      obtain ⟨g, o, hA, _, hglt⟩ := HL.out.addr (by have := HN.out; omega)
      subst hA
      have HG5 := hide (rec_get hr (HL.out.only HO.out (by simp)))
      obtain ⟨Av, cv, rfl, _, _⟩ := hrd.formb
      obtain ⟨le1, le2, le3⟩ := HLE.out i
      rw [HS.out] at le1 le2 le3
      simp only at le1 le2 le3
      have hb1 : x1 ≤ 60 := by omega
      have hb2 : x2 ≤ 60 := by omega
      have hb3 : x3 ≤ 6000 := by omega
      clear hmem hrd wk wa wp hr le1 le2 le3
      obtain ⟨nb, hnb⟩ : ∃ q, q = b.length := ⟨_, rfl⟩
      rw [← hnb] at HG5
      have HNB := hide hnb
      clear hnb
      have HR := hide (Blk.new wr 26 #[.int .i64 k, .int .i64 a, .int .i64 p, .slice Av nb cv, .int .i64 nw])
      have HOR := hide (HO.out.alloc (.cells #[.int .i64 k, .int .i64 a, .int .i64 p, .slice Av nb cv, .int .i64 nw] 26))
      obtain ⟨c0, c1, c2, c3, c4⟩ := HG5.out
      simp only at c0 c1 c2 c3 c4
      go_upto_region 4 with fail
      generalize (wr.alloc (.cells #[.int .i64 k, .int .i64 a, .int .i64 p, .slice Av nb cv, .int .i64 nw] 26)) = w1 at *
      clear c0 c1 c2 c3 c4
      obtain ⟨r0, r1, r2, r3, r4⟩ := cells5 HR.out
      have KFL := hide (fun W => flowOf_any W k a p nw b (.slice Av nb cv))
      unfold FlowPost at KFL
      rcases Decidable.em (k = 1) with hk | hk
      · have hf : flowV ⟨k, a, p, b, nw⟩ = (a, p, true) := if_pos hk
        rw [hf] at KFL
        have t1 : (k == 1) = true := by rw [beq_iff_eq]; exact hk
        have HK := hide hk
        clear hf hk
        rcases Decidable.em (a = f ∧ p = t) with hq | hq
        · have HQ := hide hq
          clear hq
          go_upto_region 5 with (go_at_call 15; refine (KFL.out _).mono ?_; rintro e w3 ⟨rfl, ho⟩; have HO3 := hide (HOR.out.trans ho); have HR3 := hide (HR.out.only ho (by simp)); clear ho r0 r1 r2 r3 r4)
          have HY4 := hide (Blk.new w3 43 #[.int .i64 a, .int .i64 p])
          have HO4 := hide (HO3.out.alloc (.cells #[.int .i64 a, .int .i64 p] 43))
          have HR4 := hide (HR3.out.alloc (.cells #[.int .i64 a, .int .i64 p] 43))
          obtain ⟨Y, hY⟩ : ∃ Y, Y = w3.heap.size := ⟨_, rfl⟩
          rw [← hY] at HY4 ⊢
          generalize (w3.alloc (.cells #[.int .i64 a, .int .i64 p] 43)) = w4 at *
          clear hY
          obtain ⟨r0, -, -, r3, -⟩ := cells5 HR4.out
          have y0 : w4.cell? ⟨Y, 0, none⟩ = some (.int .i64 a) := HY4.out.cell 0
          have y1 : w4.cell? ⟨Y, 1, none⟩ = some (.int .i64 p) := HY4.out.cell 1
          have fe : ∀ W, (binOp .neq 43 (.agg #[.int .i64 a, .int .i64 p]) (.agg #[.int .i64 f, .int .i64 t])).run Try.prog W = .ok (.bool false) W := fun W => by rw [FE.out, show (!decide (a = f ∧ p = t)) = false by simp [HQ.out]]
          have HS2 := hide (show flowN l f t (i + 1) = (x1 + 1, x2, x3) by rw [flow_take HY.out ⟨HK.out, HQ.out.1, HQ.out.2⟩, HS.out])
          clear HS
          go_wp2_with fail
          exact ⟨⟨i + 1, x1 + 1, x2, x3, by omega, congrArg (Value.int .i64) (by omega), congrArg (Value.int .i64) (by omega), rfl, rfl, HS2, HO4⟩, by simp only [intOf]; omega⟩
        · have HQ := hide hq
          clear hq
          go_upto_region 5 with (go_at_call 15; refine (KFL.out _).mono ?_; rintro e w3 ⟨rfl, ho⟩; have HO3 := hide (HOR.out.trans ho); have HR3 := hide (HR.out.only ho (by simp)); clear ho r0 r1 r2 r3 r4)
          have HY4 := hide (Blk.new w3 43 #[.int .i64 a, .int .i64 p])
          have HO4 := hide (HO3.out.alloc (.cells #[.int .i64 a, .int .i64 p] 43))
          have HR4 := hide (HR3.out.alloc (.cells #[.int .i64 a, .int .i64 p] 43))
          obtain ⟨Y, hY⟩ : ∃ Y, Y = w3.heap.size := ⟨_, rfl⟩
          rw [← hY] at HY4 ⊢
          generalize (w3.alloc (.cells #[.int .i64 a, .int .i64 p] 43)) = w4 at *
          clear hY
          obtain ⟨r0, -, -, r3, -⟩ := cells5 HR4.out
          have y0 : w4.cell? ⟨Y, 0, none⟩ = some (.int .i64 a) := HY4.out.cell 0
          have y1 : w4.cell? ⟨Y, 1, none⟩ = some (.int .i64 p) := HY4.out.cell 1
          have fe : ∀ W, (binOp .neq 43 (.agg #[.int .i64 a, .int .i64 p]) (.agg #[.int .i64 f, .int .i64 t])).run Try.prog W = .ok (.bool true) W := fun W => by rw [FE.out, show (!decide (a = f ∧ p = t)) = true by simp [HQ.out]]
          have HS2 := hide (show flowN l f t (i + 1) = (x1, x2, x3) by rw [flow_skip HY.out (fun h => HQ.out h.2) (fun h => by have h1 := h.1; have h2 := HK.out; simp only at h1; omega), HS.out])
          clear HS
          go_wp2_with fail
          exact ⟨⟨i + 1, x1, x2, x3, by omega, congrArg (Value.int .i64) (by omega), rfl, rfl, rfl, HS2, HO4⟩, by simp only [intOf]; omega⟩
      · have t1 : (k == 1) = false := by rw [beq_eq_false_iff_ne]; exact hk
        rcases Decidable.em (k = 2) with hk2 | hk2
        · have hf : flowV ⟨k, a, p, b, nw⟩ = (p, a, true) := by unfold flowV; rw [if_neg hk, if_pos hk2]
          rw [hf] at KFL
          have HK := hide hk2
          clear hf hk hk2
          rcases Decidable.em (p = f ∧ a = t) with hq | hq
          · have HQ := hide hq
            clear hq
            go_upto_region 5 with (go_at_call 15; refine (KFL.out _).mono ?_; rintro e w3 ⟨rfl, ho⟩; have HO3 := hide (HOR.out.trans ho); have HR3 := hide (HR.out.only ho (by simp)); clear ho r0 r1 r2 r3 r4)
            have HY4 := hide (Blk.new w3 43 #[.int .i64 p, .int .i64 a])
            have HO4 := hide (HO3.out.alloc (.cells #[.int .i64 p, .int .i64 a] 43))
            have HR4 := hide (HR3.out.alloc (.cells #[.int .i64 p, .int .i64 a] 43))
            obtain ⟨Y, hY⟩ : ∃ Y, Y = w3.heap.size := ⟨_, rfl⟩
            rw [← hY] at HY4 ⊢
            generalize (w3.alloc (.cells #[.int .i64 p, .int .i64 a] 43)) = w4 at *
            clear hY
            obtain ⟨r0, -, -, r3, -⟩ := cells5 HR4.out
            have y0 : w4.cell? ⟨Y, 0, none⟩ = some (.int .i64 p) := HY4.out.cell 0
            have y1 : w4.cell? ⟨Y, 1, none⟩ = some (.int .i64 a) := HY4.out.cell 1
            have fe : ∀ W, (binOp .neq 43 (.agg #[.int .i64 p, .int .i64 a]) (.agg #[.int .i64 f, .int .i64 t])).run Try.prog W = .ok (.bool false) W := fun W => by rw [FE.out, show (!decide (p = f ∧ a = t)) = false by simp [HQ.out]]
            have HS2 := hide (show flowN l f t (i + 1) = (x1, x2 + 1, x3 + nb) by rw [flow_put HY.out ⟨HK.out, HQ.out.2, HQ.out.1⟩, HS.out, HNB.out])
            have hnb6 : nb ≤ 100 := by have := HB.out _ (List.mem_of_getElem? HLI.out); rw [HNB.out]; exact this
            clear HS
            go_wp2_with fail
            exact ⟨⟨i + 1, x1, x2 + 1, x3 + nb, by omega, congrArg (Value.int .i64) (by omega), rfl, congrArg (Value.int .i64) (by omega), congrArg (Value.int .i64) (by omega), HS2, HO4⟩, by simp only [intOf]; omega⟩
          · have HQ := hide hq
            clear hq
            go_upto_region 5 with (go_at_call 15; refine (KFL.out _).mono ?_; rintro e w3 ⟨rfl, ho⟩; have HO3 := hide (HOR.out.trans ho); have HR3 := hide (HR.out.only ho (by simp)); clear ho r0 r1 r2 r3 r4)
            have HY4 := hide (Blk.new w3 43 #[.int .i64 p, .int .i64 a])
            have HO4 := hide (HO3.out.alloc (.cells #[.int .i64 p, .int .i64 a] 43))
            have HR4 := hide (HR3.out.alloc (.cells #[.int .i64 p, .int .i64 a] 43))
            obtain ⟨Y, hY⟩ : ∃ Y, Y = w3.heap.size := ⟨_, rfl⟩
            rw [← hY] at HY4 ⊢
            generalize (w3.alloc (.cells #[.int .i64 p, .int .i64 a] 43)) = w4 at *
            clear hY
            obtain ⟨r0, -, -, r3, -⟩ := cells5 HR4.out
            have y0 : w4.cell? ⟨Y, 0, none⟩ = some (.int .i64 p) := HY4.out.cell 0
            have y1 : w4.cell? ⟨Y, 1, none⟩ = some (.int .i64 a) := HY4.out.cell 1
            have fe : ∀ W, (binOp .neq 43 (.agg #[.int .i64 p, .int .i64 a]) (.agg #[.int .i64 f, .int .i64 t])).run Try.prog W = .ok (.bool true) W := fun W => by rw [FE.out, show (!decide (p = f ∧ a = t)) = true by simp [HQ.out]]
            have HS2 := hide (show flowN l f t (i + 1) = (x1, x2, x3) by rw [flow_skip HY.out (fun h => by have h1 := h.1; have h2 := HK.out; simp only at h1; omega) (fun h => HQ.out ⟨h.2.2, h.2.1⟩), HS.out])
            clear HS
            go_wp2_with fail
            exact ⟨⟨i + 1, x1, x2, x3, by omega, congrArg (Value.int .i64) (by omega), rfl, rfl, rfl, HS2, HO4⟩, by simp only [intOf]; omega⟩
        · have hf : flowV ⟨k, a, p, b, nw⟩ = (0, 0, false) := by unfold flowV; rw [if_neg hk, if_neg hk2]
          rw [hf] at KFL
          have HK := hide hk
          have HK2 := hide hk2
          clear hf hk hk2
          go_upto_region 5 with (go_at_call 15; refine (KFL.out _).mono ?_; rintro e w3 ⟨rfl, ho⟩; have HO3 := hide (HOR.out.trans ho); have HR3 := hide (HR.out.only ho (by simp)); clear ho r0 r1 r2 r3 r4)
          have HY4 := hide (Blk.new w3 43 #[.int .i64 0, .int .i64 0])
          have HO4 := hide (HO3.out.alloc (.cells #[.int .i64 0, .int .i64 0] 43))
          have HR4 := hide (HR3.out.alloc (.cells #[.int .i64 0, .int .i64 0] 43))
          obtain ⟨Y, hY⟩ : ∃ Y, Y = w3.heap.size := ⟨_, rfl⟩
          rw [← hY] at HY4 ⊢
          generalize (w3.alloc (.cells #[.int .i64 0, .int .i64 0] 43)) = w4 at *
          clear hY
          obtain ⟨r0, -, -, r3, -⟩ := cells5 HR4.out
          have y0 : w4.cell? ⟨Y, 0, none⟩ = some (.int .i64 0) := HY4.out.cell 0
          have y1 : w4.cell? ⟨Y, 1, none⟩ = some (.int .i64 0) := HY4.out.cell 1
          have HS2 := hide (show flowN l f t (i + 1) = (x1, x2, x3) by rw [flow_skip HY.out (fun h => HK.out h.1) (fun h => HK2.out h.1), HS.out])
          clear HS
          go_wp2_with fail
          exact ⟨⟨i + 1, x1, x2, x3, by omega, congrArg (Value.int .i64) (by omega), rfl, rfl, rfl, HS2, HO4⟩, by simp only [intOf]; omega⟩
end
end Go.Proofs.Ytahocmccaljplaa

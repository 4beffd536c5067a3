/-
  Walks and plain words (texts Bke, Bkf). No condition beyond those that each theorem states.
-/
import Derived.Test.YtahocmccaljplaaQ06
namespace Go.Proofs.Ytahocmccaljplaa
section
open Go.RowKit Go.Deep Go.Maps Go.WideMaps

set_option maxRecDepth 100000 in
set_option maxHeartbeats 12800000 in
theorem AloneR_any (w : World) (A : Option Addr) (cap : Nat) (L : List (Rc × Value)) (kind : Int) (hL : RdS 5 rkC w [] (.slice A L.length cap) L) (hfit : ∀ r ∈ L, RkFit w r) (hl : L.length ≤ 60) :
    Calls Try.prog 10 #[.slice A L.length cap, .int .i64 kind] w (IntsPost (aloneI (L.map Prod.fst) kind L.length) w) := by
  have HM := hide (MatchR_any w A cap L hL hfit hl)
  unfold MatchPost at HM
  obtain ⟨n, hn⟩ : ∃ n, n = L.length := ⟨_, rfl⟩
  obtain ⟨l, hll⟩ : ∃ l, l = L.map Prod.fst := ⟨_, rfl⟩
  have HLN := hide (show l.length = n by rw [hll, hn, List.length_map])
  have HN := hide hn
  have HLL := hide hll
  rw [← hn] at hL hl HM ⊢
  rw [← hll] at HM ⊢
  have HL := hide hL
  have HML := hide (show (matchM l).length = n by rw [matchM_len, HLN.out])
  clear hL hfit hn hll
  go_enter Try.func10, Try.ntmps10
  go_upto_region 2 with (go_at_call 7; refine HM.out.mono ?_; rintro e w1 ⟨v, rfl, hr, ho⟩; obtain ⟨Am, cm, rfl, _, _⟩ := hr.formi; rw [HML.out] at hr ⊢; have HR := hide hr; have HO := hide ho; clear hr ho HM)
  obtain ⟨B, hB⟩ : ∃ B, B = w1.heap.size := ⟨_, rfl⟩
  have HOE := hide (own_empty w1 3 w1.heap.size (Nat.le_refl _))
  have HO1 := hide ((Only.refl [] w1).alloc (.cells #[] 3))
  go_wp2_with fail
  rw [← hB] at HOE ⊢
  have HB := hide hB
  clear hB
  generalize (w1.alloc (.cells #[] 3)) = w2 at *
  go_loopw [7, 6] (fun iv pv wr => ∃ i : Nat, i ≤ n ∧ iv = .int .i64 i ∧ Hid (wr.ownsRow B 3 1 pv (aloneI l kind i).length (ints .i64 (aloneI l kind i))) ∧ Hid (Only [] w1 wr)) (fun iv _ _ => n - (intOf iv).toNat)
  case atStart => exact ⟨0, Nat.zero_le _, rfl, HOE, HO1⟩
  case round =>
    obtain ⟨i, hin, rfl, HP, HOX⟩ := hrel
    by_cases hi : i < n
    case neg =>
      obtain rfl : i = n := by omega
      have hnI : ¬ (i : Int) < (i : Int) := by omega
      go_wp2_with fail
      go_ret
      exact ⟨_, rfl, (Rd.of_own HP.out (by simp)).1, HO.out.trans HOX.out⟩
    case pos =>
      have hiI : (i : Int) < (n : Int) := by omega
      obtain ⟨r, hr⟩ : ∃ r, L[i]? = some r := ⟨_, List.getElem?_eq_getElem (by rw [← HN.out]; exact hi)⟩
      obtain ⟨⟨k, a, p, b, nw⟩, v⟩ := r
      have HY := hide (show l[i]? = some ⟨k, a, p, b, nw⟩ by rw [HLL.out, List.getElem?_map, hr]; rfl)
      obtain ⟨g, o, hA, _, hglt⟩ := HL.out.addr (by have := HN.out; omega)
      subst hA
      obtain ⟨c0, -, -, -, -⟩ := rec_get hr ((HL.out.only HO.out (by simp)).only HOX.out (by simp))
      obtain ⟨gm, om, hAm, cmm⟩ := match_cell (HR.out.only HOX.out (by simp)) (show i < l.length by rw [HLN.out]; exact hi)
      subst hAm
      simp only at c0
      have HLB := hide (aloneI_len l kind i)
      obtain ⟨mi, hmi⟩ : ∃ mi, mi = (matchM l).getD i 0 := ⟨_, rfl⟩
      rw [← hmi] at cmm
      have HMI := hide hmi
      clear hmi hr
      by_cases hm : mi < 0
      · by_cases hk : k = kind
        · have t1 : (k == kind) = true := by rw [beq_iff_eq]; exact hk
          have HE := hide (aloneI_yes HY.out (HMI.out ▸ hm) hk)
          clear hk
          go_wp2_with (at_builtin; refine wpList_int_append rfl (.tmp 31) (.tmp 33) rfl B _ (aloneI l kind i) rfl HP.out (by have := HLB.out; omega) (by have := HOX.out.size; have := HB.out; omega) rfl ?_; intro v2 w2 h1 _ h2 _; have HP2 := hide h1; have HO2 := hide (h2 [] w1 HOX.out (fun q hq => .inr (by have := HB.out; omega))); clear h1 h2; rw [← HE.out] at HP2)
          exact ⟨⟨i + 1, by omega, congrArg (Value.int .i64) (by omega), HP2, HO2⟩, by simp only [intOf]; omega⟩
        · have t1 : (k == kind) = false := by rw [beq_eq_false_iff_ne]; exact hk
          have HE := hide (aloneI_no HY.out (fun h => hk h.2) (kind := kind))
          clear hk
          rw [← HE.out] at HP
          go_wp2_with fail
          exact ⟨⟨i + 1, by omega, congrArg (Value.int .i64) (by omega), HP, HOX⟩, by simp only [intOf]; omega⟩
      · have HE := hide (aloneI_no (kind := kind) HY.out (fun h => hm (by rw [HMI.out]; exact h.1)))
        rw [← HE.out] at HP
        go_wp2_with fail
        exact ⟨⟨i + 1, by omega, congrArg (Value.int .i64) (by omega), HP, HOX⟩, by simp only [intOf]; omega⟩
set_option maxRecDepth 100000 in
theorem records_nil (w : World) : Calls Try.prog 17 #[.pointer none] w fun e w' => e = .returned (.slice none 0 0) ∧ w = w' := by
  go_enter Try.func17, Try.ntmps17
  go_wp2_with fail
  go_ret
  exact ⟨rfl, rfl⟩
set_option maxRecDepth 100000 in
set_option maxHeartbeats 3200000 in
theorem sound_nil (w : World) : Calls Try.prog 14 #[.pointer none] w (RetB true w) := by
  have HS := hide (fun W => strange_any W none 0 [] (RdS.nil W []) (by simp) (by simp) (by simp))
  unfold IntsPost at HS
  simp only [List.map_nil, List.length_nil] at HS
  go_enter Try.func14, Try.ntmps14
  go_wp2_with (first
    | (go_at_call 17; refine (records_nil _).mono ?_; rintro e w1 ⟨rfl, rfl⟩)
    | (go_at_call 9; refine (HS.out _).mono ?_; rintro e w2 ⟨v, rfl, hr, ho⟩; obtain ⟨Am, cm, rfl, _, _⟩ := hr.formi; have HO := hide ho; clear hr ho HS; rw [show (aloneI [] 2 0).length = 0 from rfl]))
  refine wp_loop_rounds 1 ?_
  rw [rounds_succ]
  go_wp2_with fail
  go_ret
  exact retb rfl HO.out
end
section
open Go.RowKit Go.Deep Go.Maps Go.WideMaps

def tkR : Rc × Value := (⟨1, 0, 1, [], 0⟩, .slice none 0 0)
def wtR : Rc × Value := (⟨2, 1, 0, [], 0⟩, .slice none 0 0)
def fiveR : List (Rc × Value) := [tkR, tkR, wtR, wtR, wtR]
def fiveC : Array Value := #[.int .i64 1, .int .i64 0, .int .i64 1, .slice none 0 0, .int .i64 0, .int .i64 1, .int .i64 0, .int .i64 1, .slice none 0 0, .int .i64 0, .int .i64 2, .int .i64 1, .int .i64 0, .slice none 0 0, .int .i64 0, .int .i64 2, .int .i64 1, .int .i64 0, .slice none 0 0, .int .i64 0, .int .i64 2, .int .i64 1, .int .i64 0, .slice none 0 0, .int .i64 0]
theorem five_alone : aloneI (fiveR.map Prod.fst) 2 5 = [4] := by decide +kernel
theorem rds_five (w : World) (T : TypeId) : RdS 5 rkC (w.alloc (.cells fiveC T)) [] (.slice (some ⟨w.heap.size, 0, none⟩) 5 5) fiveR := by
  have hb := Blk.new w T fiveC
  refine ⟨some ⟨w.heap.size, 0, none⟩, 5, rfl, Nat.le_refl _, by unfold maxLen; omega, .inr ⟨w.heap.size, 0, rfl, by simp, hb.lt, fun i p hp j u hu => ?_⟩⟩
  rw [Nat.zero_add, hb.cell]
  have hj : j < 5 := by
    have := (List.getElem?_eq_some_iff.1 hu).1
    rwa [rkC_len] at this
  have h := flat_get rkC 5 rkC_len fiveR i p hp j hj
  rw [hu] at h
  rw [← h, show fiveC = (fiveR.flatMap rkC).toArray from rfl, List.getElem?_toArray]
theorem fit_five (w : World) : ∀ r ∈ fiveR, RkFit w r := by
  intro r hr
  have : r = tkR ∨ r = wtR := by
    simp [fiveR] at hr
    exact hr
  rcases this with rfl | rfl
  · exact ⟨Rd.nil _ _, by decide, by decide, by decide, by decide⟩
  · exact ⟨Rd.nil _ _, by decide, by decide, by decide, by decide⟩
theorem strange_five (w : World) (G : Nat) (hG : G = w.heap.size) : Calls Try.prog 9 #[.slice (some ⟨G, 0, none⟩) 5 5] (w.alloc (.cells fiveC 26)) (IntsPost [4] (w.alloc (.cells fiveC 26))) := by
  subst hG
  have h := strange_any (w.alloc (.cells fiveC 26)) (some ⟨w.heap.size, 0, none⟩) 5 fiveR (rds_five w _) (fit_five _) (by decide) (by decide)
  rw [show fiveR.length = 5 from rfl, five_alone] at h
  exact h
set_option maxRecDepth 100000 in
set_option maxHeartbeats 6400000 in
theorem awake19 (w : World) : Calls Try.prog 4 #[] w (RetB true w) := by
  have HS := hide (fun W G hG => strange_five W G hG)
  unfold IntsPost fiveC at HS
  have HSI := hide (fun W (v : Value) (G : Nat) (hG : G = W.heap.size) (hv : Rd W [] v (ints .i64 [4])) => same_ints (W.alloc (.cells #[.int .i64 4] 3)) v (.slice (some ⟨G, 0, none⟩) 1 1) [4] (hv.only ((Only.refl [] W).alloc _) (by simp)) (hG ▸ rd_new W 3 [] [.int .i64 4] (by simp) (by unfold maxLen; simp)) (by simp))
  have HO1 := hide (((Only.refl [] w).alloc (.cells #[.int .i64 1, .int .i64 0, .int .i64 1, .slice none 0 0, .int .i64 0] 26)).alloc (.cells #[.int .i64 2, .int .i64 1, .int .i64 0, .slice none 0 0, .int .i64 0] 26))
  have HB1 := hide ((Blk.new w 26 #[.int .i64 1, .int .i64 0, .int .i64 1, .slice none 0 0, .int .i64 0]).alloc (.cells #[.int .i64 2, .int .i64 1, .int .i64 0, .slice none 0 0, .int .i64 0] 26))
  have HB2 := hide (Blk.new (w.alloc (.cells #[.int .i64 1, .int .i64 0, .int .i64 1, .slice none 0 0, .int .i64 0] 26)) 26 #[.int .i64 2, .int .i64 1, .int .i64 0, .slice none 0 0, .int .i64 0])
  rw [World.size_alloc] at HB2
  go_enter Try.func4, Try.ntmps4
  go_upto_region 2 with fail
  generalize ((w.alloc (.cells #[.int .i64 1, .int .i64 0, .int .i64 1, .slice none 0 0, .int .i64 0] 26)).alloc (.cells #[.int .i64 2, .int .i64 1, .int .i64 0, .slice none 0 0, .int .i64 0] 26)) = w1 at *
  obtain ⟨r0, r1, r2, r3, r4⟩ := cells5 HB1.out
  obtain ⟨s0, s1, s2, s3, s4⟩ := cells5 HB2.out
  go_wp2_with (first
    | (go_at_call 9; refine (HS.out _ _ rfl).mono ?_; rintro e w2 ⟨v, rfl, hr, ho⟩; obtain ⟨Am, cm, rfl, _, _⟩ := hr.formi; have HR := hide hr; have HO := hide ((HO1.out.alloc _).trans ho); clear hr ho r0 r1 r2 r3 r4 s0 s1 s2 s3 s4)
    | (go_at_call 8; refine (HSI.out _ _ _ rfl HR.out).mono ?_; rintro e w3 ⟨rfl, ho⟩; replace HO := hide ((HO.out.alloc _).trans ho); clear ho)
    | (go_at_call 14; refine (sound_nil _).mono ?_; rintro e w4 ⟨rfl, ho⟩; replace HO := hide (HO.out.trans ho); clear ho))
  go_ret
  exact retb rfl HO.out
end
end Go.Proofs.Ytahocmccaljplaa

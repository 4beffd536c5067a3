/-
  Walks and plain words for MacsCookies (texts Ck3). No condition beyond those that each theorem states.
-/
import Derived.SliceStrings
import Derived.Test.YtfmfnfmhknlpbaaDoorP15
namespace Go.Proofs.YtfmfnfmhknlpbaaDoor
section
open Go.RowKit Go.Deep

theorem Cookie_any (w : World) (s : ByteArray) (a : Int) (hs : s.size ≤ maxLen) (ha : a ≤ 9223372036854775807) (htab : Tab w) : Calls Tryd.prog 31 #[.string s, .int .i64 a] w (MakePost (cookV s a) w) := by
  unfold cookV
  by_cases h : a < 0
  · rw [if_pos h]
    exact Cookie_no w s a h
  · rw [if_neg h]
    obtain ⟨n, rfl⟩ : ∃ n : Nat, a = n := ⟨a.toNat, by omega⟩
    exact Cookie_yes w s n hs (by omega) htab
theorem CookieR_any (w : World) (s : ByteArray) (a : Int) (hs : s.size ≤ maxLen) (h : 0 ≤ a) (ha : a ≤ 9223372036854775807) : Calls Tryd.prog 32 #[.string s, .int .i64 a] w (MakePost (cookV s a) w) := by
  unfold cookV
  rw [if_neg (by omega)]
  obtain ⟨n, rfl⟩ : ∃ n : Nat, a = n := ⟨a.toNat, by omega⟩
  exact CookieR_yes w s n hs (by omega)
theorem str_ne {x y : ByteArray} (h : x ≠ y) : (x.toList == y.toList) = false := by
  rw [beq_eq_false_iff_ne]
  exact fun e => h (toList_inj e)
theorem str_eq {x y : ByteArray} (h : x = y) : (x.toList == y.toList) = true := by rw [h]; exact beq_self_eq_true _
set_option maxRecDepth 100000 in
set_option maxHeartbeats 12800000 in
theorem ck_big (w : World) (s o : ByteArray) (a x : Int) (hs : s.size ≤ maxLen) (ho : o.size ≤ maxLen) (ha : a ≤ 9223372036854775807) (hx : x ≤ 9223372036854775807) (htab : Tab w) (HB : Hid (∀ (w : World) (G : Nat), G = w.heap.size → Calls Tryd.prog 30 #[.agg #[.int .i64 0, .int .u32 0, .int .u32 0, .int .u64 0, .string ⟨#[]⟩, .string ⟨#[]⟩, .string ⟨#[]⟩, .string ⟨#[]⟩, .string ⟨#[]⟩, .string ⟨#[]⟩, .string ⟨#[]⟩, .string ⟨#[]⟩, .string ⟨#[]⟩], .slice (some ⟨G, 0, none⟩) 2 2] (w.alloc (.cells #[.string s, .string o] 9)) (RetB true w))) :
    Calls Tryd.prog 7 #[.string s, .string o, .int .i64 a, .int .i64 x] w (RetB true w) := by
  have HAW := hide (fun W ht => awake11 W ht)
  unfold RetB at HB
  have HT := hide htab
  clear hs ho ha hx htab
  go_enter Tryd.func7, Tryd.ntmps7
  go_wp2_with (first
    | (go_at_call 29; refine (HAW.out _ HT.out).mono ?_; rintro e w1 ⟨rfl, ho⟩; replace HT := hide (HT.out.only ho (by simp)); have HO := hide ho; clear ho)
    | (go_at_call 30; refine (HB.out _ _ rfl).mono ?_; rintro e w2 ⟨rfl, ho⟩; replace HT := hide (HT.out.only ho (by simp)); replace HO := hide (HO.out.trans ho); clear ho))
  go_ret
  exact retb rfl HO.out
set_option maxRecDepth 100000 in
set_option maxHeartbeats 12800000 in
theorem ck_kind (w : World) (s o : ByteArray) (a x : Int) (hs : s.size ≤ maxLen) (ho : o.size ≤ maxLen) (ha : a ≤ 9223372036854775807) (hx : x ≤ 9223372036854775807) (htab : Tab w) (HB : Hid (∀ (w : World) (G : Nat), G = w.heap.size → Calls Tryd.prog 30 #[.agg #[.int .i64 0, .int .u32 0, .int .u32 0, .int .u64 0, .string ⟨#[]⟩, .string ⟨#[]⟩, .string ⟨#[]⟩, .string ⟨#[]⟩, .string ⟨#[]⟩, .string ⟨#[]⟩, .string ⟨#[]⟩, .string ⟨#[]⟩, .string ⟨#[]⟩], .slice (some ⟨G, 0, none⟩) 2 2] (w.alloc (.cells #[.string s, .string o] 9)) (RetB false w))) (hk : kindT s = 0) :
    Calls Tryd.prog 7 #[.string s, .string o, .int .i64 a, .int .i64 x] w (RetB true w) := by
  have HAW := hide (fun W ht => awake11 W ht)
  unfold RetB at HB
  have HT := hide htab
  have HC := hide (fun W ht => Cookie_any W s a hs ha ht)
  have HI := hide (fun W => isR_all W s hs)
  unfold MakePost at HC
  unfold RetB at HI
  rw [kind_some] at HI
  rw [decide_eq_false (fun c => c hk)] at HI
  have HV := hide (show (cookV s a).toList.isEmpty = true by rw [show cookV s a = ByteArray.empty by unfold cookV; split; rfl; exact sum_no _ _ hk]; kernel_rfl)
  have hv := HV.out
  clear HV hs ho ha hx htab hk
  generalize cookV s a = cv at *
  go_enter Tryd.func7, Tryd.ntmps7
  go_wp2_with (first
    | (go_at_call 29; refine (HAW.out _ HT.out).mono ?_; rintro e w1 ⟨rfl, ho⟩; replace HT := hide (HT.out.only ho (by simp)); have HO := hide ho; clear ho)
    | (go_at_call 30; refine (HB.out _ _ rfl).mono ?_; rintro e w2 ⟨rfl, ho⟩; replace HT := hide (HT.out.only ho (by simp)); replace HO := hide (HO.out.trans ho); clear ho)
    | (go_at_call 31; (with_reducible refine (HC.out _ HT.out).mono ?_); rintro e w3 ⟨rfl, ho⟩; replace HT := hide (HT.out.only ho (by simp)); replace HO := hide (HO.out.trans ho); clear ho)
    | (go_at_call 12; refine (HI.out _).mono ?_; rintro e w4 ⟨rfl, ho⟩; replace HT := hide (HT.out.only ho (by simp)); replace HO := hide (HO.out.trans ho); clear ho))
  go_ret
  exact retb rfl HO.out
set_option maxRecDepth 100000 in
set_option maxHeartbeats 12800000 in
theorem ck_neg (w : World) (s o : ByteArray) (a x : Int) (hs : s.size ≤ maxLen) (ho : o.size ≤ maxLen) (ha : a ≤ 9223372036854775807) (hx : x ≤ 9223372036854775807) (htab : Tab w) (HB : Hid (∀ (w : World) (G : Nat), G = w.heap.size → Calls Tryd.prog 30 #[.agg #[.int .i64 0, .int .u32 0, .int .u32 0, .int .u64 0, .string ⟨#[]⟩, .string ⟨#[]⟩, .string ⟨#[]⟩, .string ⟨#[]⟩, .string ⟨#[]⟩, .string ⟨#[]⟩, .string ⟨#[]⟩, .string ⟨#[]⟩, .string ⟨#[]⟩], .slice (some ⟨G, 0, none⟩) 2 2] (w.alloc (.cells #[.string s, .string o] 9)) (RetB false w))) (hk : kindT s ≠ 0) (hn : a < 0) :
    Calls Tryd.prog 7 #[.string s, .string o, .int .i64 a, .int .i64 x] w (RetB true w) := by
  have HAW := hide (fun W ht => awake11 W ht)
  unfold RetB at HB
  have HT := hide htab
  have HC := hide (fun W ht => Cookie_any W s a hs ha ht)
  have HI := hide (fun W => isR_all W s hs)
  unfold MakePost at HC
  unfold RetB at HI
  rw [kind_some] at HI
  rw [decide_eq_true hk] at HI
  have HV := hide (show (cookV s a).toList.isEmpty = true by unfold cookV; rw [if_pos hn]; kernel_rfl)
  have hv := HV.out
  clear HV hs ho ha hx htab hk
  generalize cookV s a = cv at *
  go_enter Tryd.func7, Tryd.ntmps7
  go_wp2_with (first
    | (go_at_call 29; refine (HAW.out _ HT.out).mono ?_; rintro e w1 ⟨rfl, ho⟩; replace HT := hide (HT.out.only ho (by simp)); have HO := hide ho; clear ho)
    | (go_at_call 30; refine (HB.out _ _ rfl).mono ?_; rintro e w2 ⟨rfl, ho⟩; replace HT := hide (HT.out.only ho (by simp)); replace HO := hide (HO.out.trans ho); clear ho)
    | (go_at_call 31; (with_reducible refine (HC.out _ HT.out).mono ?_); rintro e w3 ⟨rfl, ho⟩; replace HT := hide (HT.out.only ho (by simp)); replace HO := hide (HO.out.trans ho); clear ho)
    | (go_at_call 12; refine (HI.out _).mono ?_; rintro e w4 ⟨rfl, ho⟩; replace HT := hide (HT.out.only ho (by simp)); replace HO := hide (HO.out.trans ho); clear ho))
  go_ret
  exact retb rfl HO.out
set_option maxRecDepth 100000 in
set_option maxHeartbeats 12800000 in
theorem ck_same (w : World) (s o : ByteArray) (a x : Int) (hs : s.size ≤ maxLen) (ho : o.size ≤ maxLen) (ha : a ≤ 9223372036854775807) (hx : x ≤ 9223372036854775807) (htab : Tab w) (HB : Hid (∀ (w : World) (G : Nat), G = w.heap.size → Calls Tryd.prog 30 #[.agg #[.int .i64 0, .int .u32 0, .int .u32 0, .int .u64 0, .string ⟨#[]⟩, .string ⟨#[]⟩, .string ⟨#[]⟩, .string ⟨#[]⟩, .string ⟨#[]⟩, .string ⟨#[]⟩, .string ⟨#[]⟩, .string ⟨#[]⟩, .string ⟨#[]⟩], .slice (some ⟨G, 0, none⟩) 2 2] (w.alloc (.cells #[.string s, .string o] 9)) (RetB false w))) (hk : kindT s ≠ 0) (hs2 : s.size ≤ 200) (h0 : 0 ≤ a) (heq : o = s ∧ x = a) :
    Calls Tryd.prog 7 #[.string s, .string o, .int .i64 a, .int .i64 x] w (RetB true w) := by
  have HAW := hide (fun W ht => awake11 W ht)
  unfold RetB at HB
  have HT := hide htab
  have HC := hide (fun W ht => Cookie_any W s a hs ha ht)
  have HI := hide (fun W => isR_all W s hs)
  unfold MakePost at HC
  unfold RetB at HI
  rw [kind_some] at HI
  rw [decide_eq_true hk] at HI
  have HD := hide (fun W ht => Cookie_any W o x ho hx ht)
  have HR := hide (fun W => CookieR_any W s a hs h0 ha)
  unfold MakePost at HD HR
  have hcs := cook_same s o a x hk hs2 h0 ha hx
  have h0n : ¬ a < 0 := by omega
  have q1 : ((cookV s a).toList == (cookV o x).toList) = true := str_eq (hcs.2 heq)
  have q2 : (o.toList == s.toList) = true := str_eq heq.1
  have q3 : (x == a) = true := by rw [beq_iff_eq]; exact heq.2
  have qq : ((cookV s a).toList == (cookV s a).toList) = true := beq_self_eq_true _
  clear hs ho ha hx htab hk hs2 h0 hcs heq
  generalize cookV s a = cv at *
  generalize cookV o x = dv at *
  go_enter Tryd.func7, Tryd.ntmps7
  go_wp2_with (first
    | (go_at_call 29; refine (HAW.out _ HT.out).mono ?_; rintro e w1 ⟨rfl, ho⟩; replace HT := hide (HT.out.only ho (by simp)); have HO := hide ho; clear ho)
    | (go_at_call 30; refine (HB.out _ _ rfl).mono ?_; rintro e w2 ⟨rfl, ho⟩; replace HT := hide (HT.out.only ho (by simp)); replace HO := hide (HO.out.trans ho); clear ho)
    | (go_at_call 31; (with_reducible refine (HC.out _ HT.out).mono ?_); rintro e w3 ⟨rfl, ho⟩; replace HT := hide (HT.out.only ho (by simp)); replace HO := hide (HO.out.trans ho); clear ho)
    | (go_at_call 31; (with_reducible refine (HD.out _ HT.out).mono ?_); rintro e w3 ⟨rfl, ho⟩; replace HT := hide (HT.out.only ho (by simp)); replace HO := hide (HO.out.trans ho); clear ho)
    | (go_at_call 12; refine (HI.out _).mono ?_; rintro e w4 ⟨rfl, ho⟩; replace HT := hide (HT.out.only ho (by simp)); replace HO := hide (HO.out.trans ho); clear ho)
    | (go_at_call 32; refine (HR.out _).mono ?_; rintro e w5 ⟨rfl, ho⟩; replace HO := hide (HO.out.trans ho); clear ho))
  go_ret
  exact retb rfl HO.out
set_option maxRecDepth 100000 in
set_option maxHeartbeats 12800000 in
theorem ck_other (w : World) (s o : ByteArray) (a x : Int) (hs : s.size ≤ maxLen) (ho : o.size ≤ maxLen) (ha : a ≤ 9223372036854775807) (hx : x ≤ 9223372036854775807) (htab : Tab w) (HB : Hid (∀ (w : World) (G : Nat), G = w.heap.size → Calls Tryd.prog 30 #[.agg #[.int .i64 0, .int .u32 0, .int .u32 0, .int .u64 0, .string ⟨#[]⟩, .string ⟨#[]⟩, .string ⟨#[]⟩, .string ⟨#[]⟩, .string ⟨#[]⟩, .string ⟨#[]⟩, .string ⟨#[]⟩, .string ⟨#[]⟩, .string ⟨#[]⟩], .slice (some ⟨G, 0, none⟩) 2 2] (w.alloc (.cells #[.string s, .string o] 9)) (RetB false w))) (hk : kindT s ≠ 0) (hs2 : s.size ≤ 200) (h0 : 0 ≤ a) (heq : ¬ o = s) :
    Calls Tryd.prog 7 #[.string s, .string o, .int .i64 a, .int .i64 x] w (RetB true w) := by
  have HAW := hide (fun W ht => awake11 W ht)
  unfold RetB at HB
  have HT := hide htab
  have HC := hide (fun W ht => Cookie_any W s a hs ha ht)
  have HI := hide (fun W => isR_all W s hs)
  unfold MakePost at HC
  unfold RetB at HI
  rw [kind_some] at HI
  rw [decide_eq_true hk] at HI
  have HD := hide (fun W ht => Cookie_any W o x ho hx ht)
  have HR := hide (fun W => CookieR_any W s a hs h0 ha)
  unfold MakePost at HD HR
  have hcs := cook_same s o a x hk hs2 h0 ha hx
  have h0n : ¬ a < 0 := by omega
  have q1 : ((cookV s a).toList == (cookV o x).toList) = false := str_ne (fun h => (fun h => heq h.1) (hcs.1 h))
  have q2 : (o.toList == s.toList) = false := str_ne heq
  have qq : ((cookV s a).toList == (cookV s a).toList) = true := beq_self_eq_true _
  clear hs ho ha hx htab hk hs2 h0 hcs heq
  generalize cookV s a = cv at *
  generalize cookV o x = dv at *
  go_enter Tryd.func7, Tryd.ntmps7
  go_wp2_with (first
    | (go_at_call 29; refine (HAW.out _ HT.out).mono ?_; rintro e w1 ⟨rfl, ho⟩; replace HT := hide (HT.out.only ho (by simp)); have HO := hide ho; clear ho)
    | (go_at_call 30; refine (HB.out _ _ rfl).mono ?_; rintro e w2 ⟨rfl, ho⟩; replace HT := hide (HT.out.only ho (by simp)); replace HO := hide (HO.out.trans ho); clear ho)
    | (go_at_call 31; (with_reducible refine (HC.out _ HT.out).mono ?_); rintro e w3 ⟨rfl, ho⟩; replace HT := hide (HT.out.only ho (by simp)); replace HO := hide (HO.out.trans ho); clear ho)
    | (go_at_call 31; (with_reducible refine (HD.out _ HT.out).mono ?_); rintro e w3 ⟨rfl, ho⟩; replace HT := hide (HT.out.only ho (by simp)); replace HO := hide (HO.out.trans ho); clear ho)
    | (go_at_call 12; refine (HI.out _).mono ?_; rintro e w4 ⟨rfl, ho⟩; replace HT := hide (HT.out.only ho (by simp)); replace HO := hide (HO.out.trans ho); clear ho)
    | (go_at_call 32; refine (HR.out _).mono ?_; rintro e w5 ⟨rfl, ho⟩; replace HO := hide (HO.out.trans ho); clear ho))
  go_ret
  exact retb rfl HO.out
set_option maxRecDepth 100000 in
set_option maxHeartbeats 12800000 in
theorem ck_else (w : World) (s o : ByteArray) (a x : Int) (hs : s.size ≤ maxLen) (ho : o.size ≤ maxLen) (ha : a ≤ 9223372036854775807) (hx : x ≤ 9223372036854775807) (htab : Tab w) (HB : Hid (∀ (w : World) (G : Nat), G = w.heap.size → Calls Tryd.prog 30 #[.agg #[.int .i64 0, .int .u32 0, .int .u32 0, .int .u64 0, .string ⟨#[]⟩, .string ⟨#[]⟩, .string ⟨#[]⟩, .string ⟨#[]⟩, .string ⟨#[]⟩, .string ⟨#[]⟩, .string ⟨#[]⟩, .string ⟨#[]⟩, .string ⟨#[]⟩], .slice (some ⟨G, 0, none⟩) 2 2] (w.alloc (.cells #[.string s, .string o] 9)) (RetB false w))) (hk : kindT s ≠ 0) (hs2 : s.size ≤ 200) (h0 : 0 ≤ a) (heq : o = s) (hne : ¬ x = a) :
    Calls Tryd.prog 7 #[.string s, .string o, .int .i64 a, .int .i64 x] w (RetB true w) := by
  have HAW := hide (fun W ht => awake11 W ht)
  unfold RetB at HB
  have HT := hide htab
  have HC := hide (fun W ht => Cookie_any W s a hs ha ht)
  have HI := hide (fun W => isR_all W s hs)
  unfold MakePost at HC
  unfold RetB at HI
  rw [kind_some] at HI
  rw [decide_eq_true hk] at HI
  have HD := hide (fun W ht => Cookie_any W o x ho hx ht)
  have HR := hide (fun W => CookieR_any W s a hs h0 ha)
  unfold MakePost at HD HR
  have hcs := cook_same s o a x hk hs2 h0 ha hx
  have h0n : ¬ a < 0 := by omega
  have q1 : ((cookV s a).toList == (cookV o x).toList) = false := str_ne (fun h => (fun h => hne h.2) (hcs.1 h))
  have q2 : (o.toList == s.toList) = true := str_eq heq
  have q3 : (x == a) = false := by rw [beq_eq_false_iff_ne]; exact hne
  have qq : ((cookV s a).toList == (cookV s a).toList) = true := beq_self_eq_true _
  clear hs ho ha hx htab hk hs2 h0 hcs heq hne
  generalize cookV s a = cv at *
  generalize cookV o x = dv at *
  go_enter Tryd.func7, Tryd.ntmps7
  go_wp2_with (first
    | (go_at_call 29; refine (HAW.out _ HT.out).mono ?_; rintro e w1 ⟨rfl, ho⟩; replace HT := hide (HT.out.only ho (by simp)); have HO := hide ho; clear ho)
    | (go_at_call 30; refine (HB.out _ _ rfl).mono ?_; rintro e w2 ⟨rfl, ho⟩; replace HT := hide (HT.out.only ho (by simp)); replace HO := hide (HO.out.trans ho); clear ho)
    | (go_at_call 31; (with_reducible refine (HC.out _ HT.out).mono ?_); rintro e w3 ⟨rfl, ho⟩; replace HT := hide (HT.out.only ho (by simp)); replace HO := hide (HO.out.trans ho); clear ho)
    | (go_at_call 31; (with_reducible refine (HD.out _ HT.out).mono ?_); rintro e w3 ⟨rfl, ho⟩; replace HT := hide (HT.out.only ho (by simp)); replace HO := hide (HO.out.trans ho); clear ho)
    | (go_at_call 12; refine (HI.out _).mono ?_; rintro e w4 ⟨rfl, ho⟩; replace HT := hide (HT.out.only ho (by simp)); replace HO := hide (HO.out.trans ho); clear ho)
    | (go_at_call 32; refine (HR.out _).mono ?_; rintro e w5 ⟨rfl, ho⟩; replace HO := hide (HO.out.trans ho); clear ho))
  go_ret
  exact retb rfl HO.out
theorem ck_law (s : ByteArray) (hs : s.size ≤ maxLen) (o : ByteArray) (ho : o.size ≤ maxLen) (a : Int) (wa : (Lit.int .i64 a).wf = true) (x : Int) (wx : (Lit.int .i64 x).wf = true) {w : World} (htab : Tab w) :
    Calls Tryd.prog 7 #[.string s, .string o, .int .i64 a, .int .i64 x] w fun e w' => e = .returned (.bool true) ∧ Only [] w w' := by
  have ha := (bounds_i64 wa).2
  have hx := (bounds_i64 wx).2
  obtain ⟨r, hr, hB⟩ := big_2 zeroG s o
  cases r with
  | true => exact ck_big w s o a x hs ho ha hx htab (hide hB)
  | false =>
    obtain ⟨h1, h2⟩ := hr rfl
    by_cases hk : kindT s = 0
    · exact ck_kind w s o a x hs ho ha hx htab (hide hB) hk
    · by_cases h0 : a < 0
      · exact ck_neg w s o a x hs ho ha hx htab (hide hB) hk h0
      · by_cases ho2 : o = s
        · by_cases hx2 : x = a
          · exact ck_same w s o a x hs ho ha hx htab (hide hB) hk h1 (by omega) ⟨ho2, hx2⟩
          · exact ck_else w s o a x hs ho ha hx htab (hide hB) hk h1 (by omega) ho2 hx2
        · exact ck_other w s o a x hs ho ha hx htab (hide hB) hk h1 (by omega) ho2
end
end Go.Proofs.YtfmfnfmhknlpbaaDoor

/-
  Walks and plain words (texts Trv, Trw, Tx0, Tx1). No condition beyond those that each theorem states.
-/
import Derived.Test.YtokaobilphfdoaaQ06
import Derived.Test.YtokaobilphfdoaaQ08
namespace Go.Proofs.Ytokaobilphfdoaa
section
open Go.RowKit Go.Deep

def RowsPost (bl : List Nat) (l : List Rw) (w : World) (e : Ending) (w' : World) : Prop := ∃ v, e = .returned v ∧ LisIs 3 rowC 69 w' (w.heap.size + 1) bl v l ∧ Only [] w w'
def OfPost (bl : List Nat) (l : List Rw) (w : World) (e : Ending) (w' : World) : Prop := ∃ v, e = .returned v ∧ LisIs 2 pfxC 29 w' (w.heap.size + 1) bl v l ∧ Only [] w w'
set_option maxRecDepth 100000 in
theorem rows_any (T : Nat) (bl : List Nat) (ad : Ads) (th : ThF) (ow : OwF) (w : World) (hT : TrIs w T bl ad th ow) (hlen : (rowsV th ow).length ≤ 1000) :
    Calls Try.prog 28 #[.pointer (some ⟨T, 0, none⟩)] w (RowsPost bl (rowsV th ow) w) := by
  have HB := hide (Blk.new w 67 #[.slice none 0 0])
  have HO := hide ((Only.refl [] w).alloc (.cells #[.slice none 0 0] 67))
  have HJ := hide (show JR w.heap.size (w.heap.size + 1) bl [] (w.alloc (.cells #[.slice none 0 0] 67)) from ⟨_, HB.out, LisIs.nil (fun x hx => by
    rcases List.mem_cons.1 hx with rfl | hx
    · exact HB.out.lt
    · have := hT.lt x hx; simp; omega), by simp⟩)
  have HE := hide (each_rows T bl ad th ow w (w.alloc (.cells #[.slice none 0 0] 67)) w.heap.size (w.heap.size + 1) (Nat.le_refl _) (Nat.lt_succ_self _) hT hlen HO.out HJ.out)
  clear hT hlen
  go_enter Try.func28, Try.ntmps28
  go_wp2_with (go_at_call 32; (with_reducible refine HE.out.mono ?_); rintro e w1 ⟨rfl, ho, v, hb, hL, _⟩; have HOF := hide ho; have HL := hide hL; have b0 := hb.cell 0; simp at b0; clear ho hL hb)
  go_ret
  exact ⟨_, rfl, HL.out.less (fun x hx => List.mem_cons_of_mem _ hx), HOF.out⟩
set_option maxRecDepth 100000 in
theorem of_any (T : Nat) (bl : List Nat) (ad : Ads) (th : ThF) (ow : OwF) (x : Int) (w : World) (hT : TrIs w T bl ad th ow) (hlen : (rowsV th ow).length ≤ 1000) :
    Calls Try.prog 26 #[.pointer (some ⟨T, 0, none⟩), .int .i64 x] w (OfPost bl (ofV (rowsV th ow) x) w) := by
  have HQ := hide ((Blk.new w 3 #[.int .i64 x]).alloc (.cells #[.slice none 0 0] 64))
  have HB := hide (Blk.new (w.alloc (.cells #[.int .i64 x] 3)) 64 #[.slice none 0 0])
  have HO := hide (((Only.refl [] w).alloc (.cells #[.int .i64 x] 3)).alloc (.cells #[.slice none 0 0] 64))
  simp only [World.size_alloc] at HB
  have HJ := hide (show JO w.heap.size (w.heap.size + 1) (w.heap.size + 1 + 1) x bl [] ((w.alloc (.cells #[.int .i64 x] 3)).alloc (.cells #[.slice none 0 0] 64)) from ⟨_, HB.out, HQ.out, LisIs.nil (fun y hy => by
    rcases List.mem_cons.1 hy with rfl | hy
    · exact HB.out.lt
    · rcases List.mem_cons.1 hy with rfl | hy
      · exact HQ.out.lt
      · have := hT.lt y hy; simp; omega), by simp⟩)
  have HE := hide (each_of T bl ad th ow w ((w.alloc (.cells #[.int .i64 x] 3)).alloc (.cells #[.slice none 0 0] 64)) w.heap.size (w.heap.size + 1) (w.heap.size + 1 + 1) x (Nat.le_succ _) (Nat.lt_succ_self _) (by omega) hT hlen HO.out HJ.out)
  clear hT hlen
  go_enter Try.func26, Try.ntmps26
  go_wp2_with (go_at_call 32; (with_reducible refine HE.out.mono ?_); rintro e w1 ⟨rfl, ho, v, hb, _, hL, _⟩; have HOF := hide ho; have HL := hide hL; have b0 := hb.cell 0; simp at b0; clear ho hL hb)
  go_ret
  obtain ⟨ps, h1, h2, h3, h4⟩ := HL.out.less (N' := bl) (fun x hx => List.mem_cons_of_mem _ (List.mem_cons_of_mem _ hx))
  exact ⟨_, rfl, ⟨ps, h1, own_base h2 (Nat.le_succ _), h3, h4⟩, HOF.out⟩
end
section
open Go.RowKit Go.Deep

def ZeroOw (th : ThF) (ow : OwF) : Prop := ∀ s π, th s π = false → ow s π = 0
theorem zero_del {th : ThF} {ow : OwF} (h : ZeroOw th ow) (s : Bool) (π : List Bool) : ZeroOw (upd2 th s π false) (upd2 ow s π 0) := by
  intro s' π' h'
  unfold upd2 at *
  split
  · rfl
  · rename_i hc; rw [if_neg hc] at h'; exact h s' π' h'
theorem zero_put {th : ThF} {ow : OwF} (h : ZeroOw th ow) (s : Bool) (π : List Bool) (x : Int) : ZeroOw (upd2 th s π true) (upd2 ow s π x) := by
  intro s' π' h'
  unfold upd2 at *
  split
  · rename_i hc; rw [if_pos hc] at h'; cases h'
  · rename_i hc; rw [if_neg hc] at h'; exact h s' π' h'
theorem del_any (T : Nat) (v : Value) (l : List UInt8) (b : Nat) (bl : List Nat) (ad : Ads) (th : ThF) (ow : OwF) (w : World) (hv : Rd w bl v (ints .u8 (byts l))) (hr : rightV l b = true) (hT : TrIs w T bl ad th ow) (hz : ZeroOw th ow) :
    Calls Try.prog 11 #[.pointer (some ⟨T, 0, none⟩), .agg #[v, .int .i64 b]] w (DelPost T bl th ow (sz l) (pathR l b) w) := by
  cases hs : ad (sz l) (pathR l b) with
  | some p => exact del_some T v l b bl ad th ow w hv hr hT (by rw [hs]; rfl) hz
  | none =>
    obtain ⟨h1, h2⟩ := hT.bare _ _ hs
    refine (del_none_ T v l b bl ad th ow w hv hr hT hs).mono ?_
    rintro e w' ⟨rfl, ho⟩
    refine ⟨by rw [h1], ad, ?_, ho.mono (by simp)⟩
    rw [upd2_self th _ _ _ h1, upd2_self ow _ _ _ h2]
    exact hT.only ho (by simp)
/-- The rows a trie stands for. -/
def TabIs2 (T : Nat) (bl : List Nat) (m : List Rw) (w : World) : Prop := ∃ ad th ow, TrIs w T bl ad th ow ∧ MInv m th ow ∧ ZeroOw th ow
theorem TabIs2.only {T : Nat} {bl S : List Nat} {m : List Rw} {w w' : World} (h : TabIs2 T bl m w) (ho : Only S w w') (hs : ∀ x ∈ S, x ∉ bl) : TabIs2 T bl m w' := by
  obtain ⟨ad, th, ow, h1, h2, h3⟩ := h
  exact ⟨ad, th, ow, h1.only ho hs, h2, h3⟩
theorem del_tab (T : Nat) (v : Value) (l : List UInt8) (b : Nat) (bl : List Nat) (m : List Rw) (w : World) (hv : Rd w bl v (ints .u8 (byts l))) (hr : rightV l b = true) (h : TabIs2 T bl m w) :
    Calls Try.prog 11 #[.pointer (some ⟨T, 0, none⟩), .agg #[v, .int .i64 b]] w fun e w' => e = .returned (.bool (wasV m (plainV l b, b))) ∧ TabIs2 T bl (delV m (plainV l b, b)) w' ∧ Only bl w w' := by
  obtain ⟨ad, th, ow, h1, h2, h3⟩ := h
  refine (del_any T v l b bl ad th ow w hv hr h1 h3).mono ?_
  rintro e w' ⟨rfl, ad', h4, ho⟩
  exact ⟨by rw [h2.was hr], ⟨ad', _, _, h4, h2.del hr, zero_del h3 _ _⟩, ho⟩
theorem delV_len (m : List Rw) (p : List UInt8 × Nat) : (delV m p).length ≤ m.length := List.Sublist.length_le List.eraseP_sublist
set_option maxRecDepth 100000 in
set_option maxHeartbeats 6400000 in
theorem drop_tab (T : Nat) (x : Int) (bl : List Nat) (m : List Rw) (w : World) (hm : m.length ≤ 1000) (h : TabIs2 T bl m w) :
    Calls Try.prog 13 #[.pointer (some ⟨T, 0, none⟩), .int .i64 x] w fun e w' => e = .returned (.int .i64 ((ofV m x).length : Int)) ∧ TabIs2 T bl (dropV m x) w' ∧ Only bl w w' := by
  obtain ⟨ad, th, ow, h1, h2, h3⟩ := h
  have hof := of_any T bl ad th ow x w h1 (by rw [rows_eq h2]; exact hm)
  rw [rows_eq h2] at hof
  have HOF := hide hof
  have HT := hide h1
  have HM := hide h2
  have HZ := hide h3
  have HLT := hide h1.lt
  have hlen : (ofV m x).length ≤ 1000 := Nat.le_trans (List.length_filter_le _ _) hm
  have HML := hide hm
  clear h1 h2 h3 hof hm
  go_enter Try.func13, Try.ntmps13
  go_wp2_with (go_at_call 26; refine HOF.out.mono ?_; rintro e w1 ⟨v, rfl, hL, ho⟩; obtain ⟨ps, hps, hrd, hrows⟩ := hL.rd pfxC_len (by decide); obtain ⟨A, cg, rfl, _, _⟩ := hrd.form; have HPS := hide hps; have HRD := hide hrd; have HROWS := hide hrows; have HO := hide ho; clear hps hrd hrows ho hL)
  obtain ⟨n, hn⟩ : ∃ n, n = ps.length := ⟨_, rfl⟩
  rw [← hn] at HRD ⊢
  have HN := hide hn
  have HNO := hide (show (ofV m x).length = n from by rw [hn, ← HPS.out, List.length_map])
  have hn1000 : n ≤ 1000 := by rw [← HNO.out]; exact hlen
  clear hn hlen
  go_loopw [7, 13] (fun _ i wr => ∃ (k : Nat), k ≤ n ∧ i = .int .i64 k ∧ Hid (TabIs2 T bl ((((ofV m x).take k).map pf).foldl delV m) wr) ∧ Hid (Only bl w1 wr)) (fun _ i _ => n - (intOf i).toNat)
  case atStart => exact ⟨0, Nat.zero_le _, rfl, hide ⟨ad, th, ow, HT.out.only HO.out (by simp), HM.out, HZ.out⟩, hide (Only.refl bl w1)⟩
  case round =>
    obtain ⟨k, hk, rfl, HTB, HX⟩ := hrel
    by_cases hlt : k < n
    · have hltI : (k : Int) < (n : Int) := by omega
      obtain ⟨p, hp⟩ : ∃ p, ps[k]? = some p := ⟨_, List.getElem?_eq_getElem (by rw [← HN.out]; exact hlt)⟩
      obtain ⟨g, o, rfl, hg, hgl⟩ := HRD.out.addr (by rw [← HN.out]; omega)
      have hrd2 := HRD.out.only HX.out (fun x hx => hx)
      have c0 := hrd2.cell hp (show (pfxC p)[0]? = some p.1 from rfl)
      have c1 := hrd2.cell hp (show (pfxC p)[1]? = some (.int .i64 p.2.2.1) from rfl)
      have hmem : p ∈ ps := List.mem_of_getElem? hp
      have hpv := HROWS.out p hmem
      have hr0 : (ofV m x)[k]? = some p.2 := by rw [← HPS.out, List.getElem?_map, hp]; rfl
      have hrm : p.2 ∈ m := (List.mem_filter.1 (List.mem_of_getElem? hr0)).1
      obtain ⟨q1, q2, _, _⟩ := HM.out.out p.2 hrm
      have HSTEP := hide (show (((ofV m x).take (k + 1)).map pf).foldl delV m = delV ((((ofV m x).take k).map pf).foldl delV m) (plainV p.2.1 p.2.2.1, p.2.2.1) from by
        rw [List.take_add_one, hr0, List.map_append, List.foldl_append, q2]; rfl)
      obtain ⟨pv, pl, pb, px⟩ := p
      simp only at c0 c1 hpv q1 HSTEP
      obtain ⟨Ap, cp, rfl, _, _⟩ := hpv.formb
      have HPV := hide (hpv.only HX.out (fun x hx => hx))
      have HQ1 := hide q1
      have HBX := hide (Blk.new wr 29 #[.slice Ap pl.length cp, .int .i64 pb])
      have HXA := hide ((Only.refl [] wr).alloc (.cells #[.slice Ap pl.length cp, .int .i64 pb] 29))
      have HTB2 := hide (HTB.out.only HXA.out (by simp))
      have HPV2 := hide (HPV.out.only HXA.out (by simp))
      rw [Nat.add_zero] at c0
      rw [← Nat.add_assoc] at c1
      clear hrd2 hmem hpv hr0 hrm q1 q2 hp hg hgl
      go_upto_region 5 with (fail)
      generalize wr.alloc (.cells #[.slice Ap pl.length cp, .int .i64 pb] 29) = w2 at *
      obtain ⟨q, hq⟩ : ∃ q, q = wr.heap.size := ⟨_, rfl⟩
      rw [← hq] at HBX ⊢
      clear hq c0 c1
      have c0 := HBX.out.cell 0
      have c1 := HBX.out.cell 1
      simp at c0 c1
      go_wp2_with (go_at_call 11; refine (del_tab T _ pl pb bl _ w2 HPV2.out HQ1.out HTB2.out).mono ?_; rintro e w3 ⟨rfl, htb, ho3⟩; have HTB3 := hide htb; have HO3 := hide ho3; clear htb ho3)
      go_roundw
      case rel => exact ⟨k + 1, by omega, by go_num, hide (by rw [HSTEP.out]; exact HTB3.out), hide (HX.out.trans ((HXA.out.mono (by simp)).trans HO3.out))⟩
      case measure => simp [intOf]; omega
    · obtain rfl : k = n := by omega
      have hge : ¬ (k : Int) < (k : Int) := by omega
      go_wp2_with fail
      go_ret
      refine ⟨by rw [HNO.out]; rfl, ?_, (HO.out.mono (by simp)).trans HX.out⟩
      have h := HTB.out
      rw [← HNO.out, List.take_length, dels_drop HM.out.srt] at h
      exact h
end
section
open Go.RowKit Go.Deep

theorem slice_from3 {P : Program} (t e : TypeId) (A : Option Addr) (n cap i : Nat) (hu : P.underlying t = some (.slice e)) {ti : TypeInfo} (hsz : P.info? e = some ti) (h1 : ti.size = 3) (hi : i ≤ n) (hc : n ≤ cap) (W : World) :
    (Instr.sliceAt t (.slice A n cap) (some (.int .i64 (i : Int))) none none).run P W = .ok (.slice (if cap = i then A else A.map (·.add (i * 3))) (n - i) (cap - i)) W := by
  simp [Instr.sliceAt, Instr.slice, Instr.sliceBounds, Instr.sliceBound, run_underlying hu, go_sem, asIntOf, sizeOf, typeInfo, hsz, h1]
  intro h; omega
section
variable {k : Nat} {F : PRw → List Value} {w : World} {N : List Nat} {l : List PRw} {A : Option Addr} {n c : Nat}
theorem RdS.reads (hF : ∀ p, (F p).length = k) (h : RdS k F w N (.slice A n c) l) : Reads w w.heap.size k A n (l.flatMap F) := by
  obtain ⟨A', c', hv, hc, hm, h⟩ := h
  injection hv with h1 h2 h3
  subst h1 h2 h3
  refine ⟨flat_len F k hF l, fun hn => ?_⟩
  rcases h with h | ⟨g, o, rfl, _, hl, hcell⟩
  · subst h; simp at hn
  · refine ⟨_, rfl, hl, fun j u hu => ?_⟩
    rw [add_mk]
    have hk : 0 < k := by
      rcases Nat.eq_zero_or_pos k with h0 | h0
      · have hj := (List.getElem?_eq_some_iff.1 hu).1
        rw [flat_len F k hF, h0] at hj
        omega
      · exact h0
    have hj := (List.getElem?_eq_some_iff.1 hu).1
    rw [flat_len F k hF] at hj
    have hi : j / k < l.length := Nat.div_lt_of_lt_mul (by rwa [Nat.mul_comm])
    have hp : l[j / k]? = some l[j / k] := List.getElem?_eq_getElem hi
    have := flat_get F k hF l (j / k) _ hp (j % k) (Nat.mod_lt _ hk)
    rw [Nat.mul_comm, Nat.div_add_mod] at this
    rw [this] at hu
    have h2 := hcell (j / k) _ hp (j % k) u hu
    rwa [Nat.mul_comm, Nat.div_add_mod] at h2
theorem RdS.take2 (h : RdS k F w N (.slice A n c) l) {i : Nat} (hi : i ≤ n) : RdS k F w N (.slice A i c) (l.take i) := by
  obtain ⟨A', c', hv, hc, hm, h⟩ := h
  injection hv with h1 h2 h3
  subst h1 h2 h3
  refine ⟨A, c, by rw [List.length_take, Nat.min_eq_left hi], by rw [List.length_take]; omega, hm, ?_⟩
  rcases h with h | ⟨g, o, hA, hg, hl, hcell⟩
  · exact .inl (by rw [h, List.take_nil])
  · refine .inr ⟨g, o, hA, hg, hl, fun j p hp => hcell j p ?_⟩
    rw [List.getElem?_take] at hp
    split at hp
    · exact hp
    · cases hp
theorem RdS.drop2 (h : RdS k F w N (.slice A n c) l) {i : Nat} (hi : i ≤ n) : RdS k F w N (.slice (if c = i then A else A.map (·.add (i * k))) (n - i) (c - i)) (l.drop i) := by
  obtain ⟨A', c', hv, hc, hm, h⟩ := h
  injection hv with h1 h2 h3
  subst h1 h2 h3
  refine ⟨_, c - i, by rw [List.length_drop], by rw [List.length_drop]; omega, by omega, ?_⟩
  rcases h with h | ⟨g, o, rfl, hg, hl, hcell⟩
  · exact .inl (by rw [h]; simp)
  · by_cases hci : c = i
    · exact .inl (List.drop_eq_nil_of_le (by omega))
    · rw [if_neg hci]
      refine .inr ⟨g, o + i * k, by simp [add_mk], hg, hl, fun j p hp m u hu => ?_⟩
      rw [List.getElem?_drop] at hp
      have := hcell (i + j) p hp m u hu
      rwa [Nat.add_mul, Nat.add_assoc (i * k), ← Nat.add_assoc o] at this
end
theorem info_row8 : (Try.prog.info? 57).map (fun i => (i.zero, i.size, i.bytes)) = some (some (.agg #[.slice none 0 0, .int .i64 0, .int .i64 0]), 3, 40) := by kernel_rfl
theorem rowC_one (ps : List PRw) (h : ∀ p ∈ ps, ∃ A n c, p.1 = .slice A n c) : ∀ u ∈ ps.flatMap rowC, u.oneCell' = true := by
  intro u hu
  obtain ⟨p, hp, hu⟩ := List.mem_flatMap.1 hu
  obtain ⟨A, n, c, e⟩ := h p hp
  unfold rowC at hu
  rw [e] at hu
  simp only [List.mem_cons, List.not_mem_nil, or_false] at hu
  rcases hu with rfl | rfl | rfl <;> rfl
def OwnR (W : World) (base : Nat) (v : Value) (ps : List PRw) : Prop := W.ownsRow base 57 3 v ps.length (ps.flatMap rowC)
theorem OwnR.only {W W' : World} {base : Nat} {v : Value} {ps : List PRw} (h : OwnR W base v ps) (ho : Only [] W W') : OwnR W' base v ps := own_only h ho (by simp)
theorem OwnR.rd {W : World} {base : Nat} {v : Value} {ps : List PRw} {N : List Nat} (h : OwnR W base v ps) (hN : ∀ x ∈ N, x < base) : RdS 3 rowC W N v ps := (RdS.of_own rowC_len (by decide) h hN).1
theorem ownR_empty (w : World) (base : Nat) (hb : base ≤ w.heap.size) : OwnR (w.alloc (.cells #[] 57)) base (.slice (some ⟨w.heap.size, 0, none⟩) 0 0) [] := ⟨rfl, .inr ⟨w.heap.size, 0, #[], rfl, hb, Blk.new w _ _, Nat.le_refl _, Nat.zero_le _, rfl, rfl⟩⟩
theorem wp_rows_append {W w0 : World} {o : Oper} {a : Act} {K : Act → World → Prop} {Q : Exit → Act → World → Prop} (s x : Operand) (ho : o.op = .call { callee := .builtin .append, args := #[s, x], argTypes := #[27, 27] })
    (base : Nat) (v : Value) (ps qs : List PRw) (hs : a.eval s = v) (hown : OwnR W base v ps) (A : Option Addr) (m c : Nat) (hx : a.eval x = .slice A m c) (hr : RdS 3 rowC W [] (.slice A m c) qs) (hq : ∀ p ∈ qs, ∃ A n c, p.1 = .slice A n c)
    (hl : ps.length + qs.length ≤ 100000) (hb : base ≤ W.heap.size) (hO : Only [] w0 W) (hw0 : w0.heap.size ≤ base)
    (h : ∀ v' w', OwnR w' base v' (ps ++ qs) → Only [] w0 w' → base ≤ w'.heap.size → (∀ g t cs, v.ownBlock ≠ some g → Blk W g t cs → Blk w' g t cs ∧ v'.ownBlock ≠ some g) → K (a.put o.dst v') w') : o.wp Try.prog a W K Q := by
  obtain ⟨i, hi, hz, hs1, hby⟩ := info_parts info_row8
  have hm : m = qs.length := by
    obtain ⟨A', c', hv, _⟩ := hr
    injection hv with _ h2 _
  have hrd := RdS.reads rowC_len hr
  subst hm
  refine wp_append_any (P := Try.prog) W s x 27 ho base 57 i (.agg #[.slice none 0 0, .int .i64 0, .int .i64 0]) 3 40 Try.underlying27 hi hz hs1 hby rfl (by decide) v ps.length (ps.flatMap rowC) hs hown W.heap.size A qs.length c (qs.flatMap rowC) hx hrd (rowC_one qs hq) (by unfold maxLen; omega) (by omega) hb ?_
  intro v' w' g1 g2 g3
  refine h v' w' ?_ (hO.grown g2 (fun j hj => .inr (by have := own_block_ge hown hj; omega))) (Nat.le_trans hb g2.size) (fun g t cs hg hbk => ⟨hbk.grown g2 (fun e => hg e.symm), fun e => ?_⟩)
  rotate_left
  · rcases g3 with g3 | g3
    · exact hg (g3.symm.trans e)
    · rw [g3] at e; injection e with e; have := hbk.lt; omega
  unfold OwnR
  rw [List.length_append, List.flatMap_append]
  exact g1
theorem erase_at : ∀ {l : List Rw} {i : Nat} {p : List UInt8 × Nat} {r : Rw}, l[i]? = some r → pf r = p → (∀ (j : Nat) (s : Rw), j < i → l[j]? = some s → pf s ≠ p) → delV l p = l.take i ++ l.drop (i + 1) ∧ wasV l p = true
  | a :: l, 0, p, r, h1, h2, _ => by
    simp at h1
    subst h1
    exact ⟨by unfold delV; rw [List.eraseP_cons_of_pos (by simpa using h2)]; simp, by unfold wasV; simp [h2]⟩
  | a :: l, i + 1, p, r, h1, h2, h3 => by
    have ha : pf a ≠ p := h3 0 a (Nat.succ_pos _) rfl
    obtain ⟨g1, g2⟩ := erase_at (l := l) (i := i) (by simpa using h1) h2 (fun j s hj hs => h3 (j + 1) s (by omega) (by simpa using hs))
    refine ⟨?_, ?_⟩
    · unfold delV at *
      rw [List.eraseP_cons_of_neg (by simpa using ha), g1]
      simp
    · unfold wasV at *
      rw [List.any_cons, g2, Bool.or_true]
theorem erase_none {l : List Rw} {p : List UInt8 × Nat} (h : ∀ (j : Nat) (s : Rw), l[j]? = some s → pf s ≠ p) : delV l p = l ∧ wasV l p = false := by
  have hw : wasV l p = false := by
    unfold wasV
    rw [List.any_eq_false]
    intro x hx
    obtain ⟨j, hj⟩ := List.getElem?_of_mem hx
    simpa using h j x hj
  exact ⟨del_none hw, hw⟩
end
section
open Go.RowKit Go.Deep

theorem bef_len {l m : List UInt8} {b c : Nat} (h : ¬ l.length = m.length) : befV (l, b) (m, c) = decide (l.length < m.length) := by unfold befV; simp only; rw [if_neg h]
theorem bef_bits {l : List UInt8} {b c : Nat} : befV (l, b) (l, c) = decide (b < c) := by unfold befV; simp
theorem bef_less {l m : List UInt8} {b c : Nat} (h : l.length = m.length) (h2 : ¬ l = m) : befV (l, b) (m, c) = Op.bytesLess l m := by unfold befV; simp only; rw [if_pos h, if_neg h2]
set_option maxRecDepth 100000 in
set_option maxHeartbeats 3200000 in
theorem before_any (v u : Value) (l m : List UInt8) (b c : Nat) (w : World) (hv : Rd w [] v (ints .u8 (byts l))) (hu : Rd w [] u (ints .u8 (byts m))) :
    Calls Try.prog 20 #[.agg #[v, .int .i64 b], .agg #[u, .int .i64 c]] w (RetB (befV (l, b) (m, c)) w) := by
  have HO := hide (((Only.refl [] w).alloc (.cells #[v, .int .i64 b] 29)).alloc (.cells #[u, .int .i64 c] 29))
  have HP := hide ((Blk.new w 29 #[v, .int .i64 b]).alloc (.cells #[u, .int .i64 c] 29))
  have HQ := hide (Blk.new (w.alloc (.cells #[v, .int .i64 b] 29)) 29 #[u, .int .i64 c])
  have HV := hide (hv.only HO.out (by simp))
  have HU := hide (hu.only HO.out (by simp))
  simp only [World.size_alloc] at HQ
  obtain ⟨A, ca, rfl, _, _⟩ := hv.formb
  obtain ⟨B, cb, rfl, _, _⟩ := hu.formb
  have hs1 := rd_string (P := Try.prog) HV.out 23 9 5 Try.underlying23 Try.underlying5 Try.underlying9
  have hs2 := rd_string (P := Try.prog) HU.out 23 9 5 Try.underlying23 Try.underlying5 Try.underlying9
  obtain ⟨X, hX⟩ : ∃ X : ByteArray, X = ⟨l.toArray⟩ := ⟨_, rfl⟩
  obtain ⟨Y, hY⟩ : ∃ Y : ByteArray, Y = ⟨m.toArray⟩ := ⟨_, rfl⟩
  have hXl : X.toList = l := by rw [hX, ByteArray.toList_eq]
  have hYl : Y.toList = m := by rw [hY, ByteArray.toList_eq]
  rw [← hX] at hs1
  rw [← hY] at hs2
  clear hv hu hX hY
  by_cases hl : l.length = m.length
  · by_cases he : l = m
    · subst he
      have e1 : ((l.length : Int) != (l.length : Int)) = false := by rw [bne_eq_false_iff_eq]
      have e2 : (X.toList == Y.toList) = true := by rw [beq_iff_eq, hXl, hYl]
      have HB := hide (bef_bits (l := l) (b := b) (c := c))
      rw [HB.out]
      clear hl hXl hYl
      go_enter Try.func20, Try.ntmps20
      go_upto_region 1 with (fail)
      generalize ((w.alloc (.cells #[.slice A l.length ca, .int .i64 b] 29)).alloc (.cells #[.slice B l.length cb, .int .i64 c] 29)) = w2 at *
      obtain ⟨p, hp⟩ : ∃ p, p = w.heap.size := ⟨_, rfl⟩
      rw [← hp] at HP HQ ⊢
      clear hp
      have c0 := HP.out.cell 0
      have c1 := HP.out.cell 1
      have d0 := HQ.out.cell 0
      have d1 := HQ.out.cell 1
      simp at c0 c1 d0 d1
      go_wp2_with fail
      go_ret
      exact ⟨rfl, HO.out⟩
    · have e1 : ((l.length : Int) != (m.length : Int)) = false := by rw [bne_eq_false_iff_eq]; omega
      have e2 : (X.toList == Y.toList) = false := by rw [beq_eq_false_iff_ne, hXl, hYl]; exact he
      have HB := hide (show befV (l, b) (m, c) = Op.bytesLess X.toList Y.toList by rw [hXl, hYl]; exact bef_less hl he)
      rw [HB.out]
      clear hl he hXl hYl
      go_enter Try.func20, Try.ntmps20
      go_upto_region 1 with (fail)
      generalize ((w.alloc (.cells #[.slice A l.length ca, .int .i64 b] 29)).alloc (.cells #[.slice B m.length cb, .int .i64 c] 29)) = w2 at *
      obtain ⟨p, hp⟩ : ∃ p, p = w.heap.size := ⟨_, rfl⟩
      rw [← hp] at HP HQ ⊢
      clear hp
      have c0 := HP.out.cell 0
      have c1 := HP.out.cell 1
      have d0 := HQ.out.cell 0
      have d1 := HQ.out.cell 1
      simp at c0 c1 d0 d1
      go_wp2_with fail
      go_ret
      exact ⟨rfl, HO.out⟩
  · have e1 : ((l.length : Int) != (m.length : Int)) = true := by rw [bne_iff_ne]; omega
    have HB := hide (bef_len (b := b) (c := c) hl)
    rw [HB.out]
    clear hl hXl hYl
    go_enter Try.func20, Try.ntmps20
    go_upto_region 1 with (fail)
    generalize ((w.alloc (.cells #[.slice A l.length ca, .int .i64 b] 29)).alloc (.cells #[.slice B m.length cb, .int .i64 c] 29)) = w2 at *
    obtain ⟨p, hp⟩ : ∃ p, p = w.heap.size := ⟨_, rfl⟩
    rw [← hp] at HP HQ ⊢
    clear hp
    have c0 := HP.out.cell 0
    have c1 := HP.out.cell 1
    have d0 := HQ.out.cell 0
    have d1 := HQ.out.cell 1
    simp at c0 c1 d0 d1
    go_wp2_with fail
    go_ret
    exact ⟨rfl, HO.out⟩
end
end Go.Proofs.Ytokaobilphfdoaa

/-
  Walks and plain words (texts Wd). No condition beyond those that each theorem states.
-/
import Derived.Test.YteoifokmbkpbnaaDoorQ07
namespace Go.Proofs.YteoifokmbkpbnaaDoor
section
open Go.RowKit Go.Deep

/-- May a text stand in a message? -/
def fitW (s : ByteArray) : Bool := decide (s.size ≤ 65535) && (parseV s).isSome
set_option maxRecDepth 100000 in
set_option maxHeartbeats 6400000 in
theorem fit_any (w : World) (s : ByteArray) (hs : s.size ≤ maxLen) : Calls Tryd.prog 110 #[.string s] w (RetB (fitW s) w) := by
  have HK := hide (fun W => Kind_any W s hs)
  unfold KindPost at HK
  have hkz : (kindT s != 0) = (parseV s).isSome := by
    unfold kindT
    cases h : parseV s with
    | none => rfl
    | some nd =>
      obtain ⟨k, n, b, l⟩ := nd
      have := kind_pos h
      simp only [Option.isSome_some]
      rw [bne_iff_ne]
      omega
  unfold maxLen at hs
  by_cases h : s.size ≤ 65535
  · have hI : (s.size : Int) ≤ 65535 := by omega
    have HV := hide (show fitW s = (parseV s).isSome by unfold fitW; rw [decide_eq_true h, Bool.true_and])
    generalize kindT s = k at *
    generalize (parseV s).isSome = r at *
    clear h
    cases r
    all_goals
      go_enter Tryd.func110, Tryd.ntmps110
      go_wp2_with (go_at_call 62; refine (HK.out _).mono ?_; rintro e w1 ⟨rfl, ho⟩; have HC := hide ho; clear ho)
      go_ret
      exact retb HV.out HC.out
  · have hI : ¬ (s.size : Int) ≤ 65535 := by omega
    have HV := hide (show fitW s = false by unfold fitW; rw [decide_eq_false h, Bool.false_and])
    clear h
    go_enter Tryd.func110, Tryd.ntmps110
    go_wp2_with fail
    go_ret
    exact retb HV.out (Only.refl _ _)

/-- A text of a message, read: the code, the text, what is left. -/
def textV (l : List UInt8) : Int × ByteArray × List UInt8 :=
  if l.length < 2 then (4, ByteArray.empty, []) else
  if (l.drop 2).length < lowV (l.take 2) then (4, ByteArray.empty, []) else
  if fitW ⟨((l.drop 2).take (lowV (l.take 2))).toArray⟩ = true then (0, ⟨((l.drop 2).take (lowV (l.take 2))).toArray⟩, (l.drop 2).drop (lowV (l.take 2))) else (3, ByteArray.empty, [])
/-- Behind a field: what was read lies in the message's cell. -/
def FieldPost (N : List Nat) (g M i : Nat) (cs : Array Value) (r : Int × Value × List UInt8) (w : World) (e : Ending) (w' : World) : Prop :=
  e = .returned (.int .i64 r.1) ∧ Only [g, M] w w' ∧ (r.1 = 0 → RdrAt w' N g r.2.2 ∧ Blk w' M 78 (cs.setIfInBounds i r.2.1))
theorem field_no {N : List Nat} {g M i : Nat} {cs : Array Value} {r : Int × Value × List UInt8} {c : Int} {w w' : World} (h : r.1 = c) (hc : c ≠ 0) (ho : Only [g, M] w w') : FieldPost N g M i cs r w (.returned (.int .i64 c)) w' :=
  ⟨by rw [h], ho, fun h0 => absurd (h.symm.trans h0) hc⟩
theorem field_yes {N : List Nat} {g M i : Nat} {cs : Array Value} {r : Int × Value × List UInt8} {v : Value} {q : List UInt8} {w w1 : World} (h : r = (0, v, q)) (ho : Only [g] w w1) (ha : RdrAt w1 N g q) (hM : M ∈ N) (hgM : g ≠ M) (hb : Blk w M 78 cs) :
    FieldPost N g M i cs r w (.returned (.int .i64 0)) (w1.setCell ⟨M, i, none⟩ v) := by
  subst h
  have hs : Only [M] w1 (w1.setCell ⟨M, i, none⟩ v) := (Only.refl [M] w1).setCell (p := ⟨M, i, none⟩) (.inl (by simp)) _
  refine ⟨rfl, (ho.mono (by simp)).trans (hs.mono (by simp)), fun _ => ⟨ha.only hs (by simpa using hgM) (by intro x hx; rw [List.mem_singleton.1 hx]; exact hM), ?_⟩⟩
  exact (hb.only ho (by simpa using Ne.symm hgM)).set_ i v
theorem size_toArray_ (l : List UInt8) : (⟨l.toArray⟩ : ByteArray).size = l.length := by show l.toArray.size = _; simp

set_option maxRecDepth 100000 in
set_option maxHeartbeats 6400000 in
theorem field_4 (w : World) (N : List Nat) (g M : Nat) (l : List UInt8) (hl : l.length ≤ 1099511627776) (cs : Array Value) {u : Value} (hu : cs[4]? = some u) (h : RdrAt w N g l) (hM : M ∈ N) (hgM : g ≠ M) (hb : Blk w M 78 cs) :
    Calls Tryd.prog 77 #[.pointer (some ⟨g, 0, none⟩), .agg #[.int .i64 0, .nilFunc, .nilFunc, .func (.func 98) #[] #[]], .pointer (some ⟨M, 0, none⟩)] w (FieldPost N g M 4 cs ((textV l).1, .string (textV l).2.1, (textV l).2.2) w) := by
  have hst := fun (W : World) (a : Addr) (fn : Fn) (c : Array Value) => (run_store Tryd.prog W a (.func fn #[] c) .plain rfl : (store a (.func fn #[] c)).run Tryd.prog W = stored Tryd.prog W a (.func fn #[] c) .plain)
  have hsn := fun (W : World) (a : Addr) => (run_store Tryd.prog W a .nilFunc .plain rfl : (store a .nilFunc).run Tryd.prog W = stored Tryd.prog W a .nilFunc .plain)
  have HAL := hide (show Only [] w (w.alloc (.cells #[.int .i64 0, .nilFunc, .nilFunc, .func (.func 98) #[] #[]] 126)) from (Only.refl [] w).alloc _)
  have HF := hide (Blk.new w 126 #[.int .i64 0, .nilFunc, .nilFunc, .func (.func 98) #[] #[]])
  have HA := hide (h.only HAL.out (by simp) (by simp))
  have HMB := hide (hb.only HAL.out (by simp))
  have HM0 := hide hb
  have hglt : g < w.heap.size := by obtain ⟨_, _, _, hb1, _⟩ := h; exact hb1.lt
  have hwg : w.heap.size ∉ [g] := by simp; omega
  have HN := hide (number_w _ N g 2 l hl (by omega) HA.out)
  have HU := hide hu
  clear h hb hu
  by_cases h2 : l.length < 2
  · have HV := hide (show (textV l).1 = 4 by unfold textV; rw [if_pos h2])
    unfold NumPostW at HN
    simp only [if_pos h2] at HN
    clear h2
    go_enter Tryd.func77, Tryd.ntmps77
    go_wp2_with (go_at_call 94; refine HN.out.mono ?_; rintro e w1 ⟨rfl, rfl⟩)
    go_ret
    exact field_no HV.out (by decide) (HAL.out.mono (by simp))
  · obtain ⟨n, hn⟩ : ∃ n, n = lowV (l.take 2) := ⟨_, rfl⟩
    obtain ⟨q, hq⟩ : ∃ q, q = l.drop 2 := ⟨_, rfl⟩
    have hn6 : n < 65536 := by have h := lowV_lt (l.take 2); rw [List.length_take, Nat.min_eq_left (by omega)] at h; omega
    have hql : q.length ≤ 1099511627776 := by rw [hq, List.length_drop]; omega
    have HTV := hide (show textV l = if q.length < n then (4, ByteArray.empty, []) else if fitW ⟨(q.take n).toArray⟩ = true then (0, ⟨(q.take n).toArray⟩, q.drop n) else (3, ByteArray.empty, []) by unfold textV; rw [if_neg h2, ← hn, ← hq])
    unfold NumPostW at HN
    simp only [if_neg h2] at HN
    rw [← hn, ← hq] at HN
    have HT := hide (fun W (h : RdrAt W N g q) => take_w W N g n q hql (by omega) h)
    have hwn : IntKind.i64.wrap (n : Int) = n := by rw [IntKind.wrap_i64]; omega
    have HFT := hide (fun W => fit_any W ⟨(q.take n).toArray⟩ (by rw [size_toArray_, List.length_take]; unfold maxLen; omega))
    unfold RetB at HFT
    clear h2 hn hq hn6 hql
    by_cases h3 : q.length < n
    · have HV := hide (show (textV l).1 = 4 by rw [HTV.out, if_pos h3])
      unfold TakePostW at HT
      simp only [if_pos h3] at HT
      clear h3
      go_enter Tryd.func77, Tryd.ntmps77
      go_wp2_with (first
        | (go_at_call 94; refine HN.out.mono ?_; rintro e w1 ⟨rfl, ha, ho⟩; have HA := hide ha; have HO := hide (HAL.out.mono (S' := [g]) (by simp) |>.trans ho); have HF := hide (HF.out.only ho hwg); clear ha ho; have f0 := HF.out.cell 0; have f3 := HF.out.cell 3; simp at f0 f3)
        | (go_at_call 109; refine (HT.out _ HA.out).mono ?_; rintro e w2 ⟨rfl, rfl⟩))
      go_ret
      exact field_no HV.out (by decide) (HO.out.mono (by simp))
    · unfold TakePostW at HT
      simp only [if_neg h3] at HT
      rcases Bool.eq_false_or_eq_true (fitW ⟨(q.take n).toArray⟩) with hf | hf
      · have HV := hide (show ((textV l).1, Value.string (textV l).2.1, (textV l).2.2) = (0, Value.string ⟨(q.take n).toArray⟩, q.drop n) by rw [HTV.out, if_neg h3, if_pos hf])
        rw [hf] at HFT
        clear h3 hf
        go_enter Tryd.func77, Tryd.ntmps77
        go_wp2_with (first
          | (go_at_call 94; refine HN.out.mono ?_; rintro e w1 ⟨rfl, ha, ho⟩; have HA := hide ha; have HO := hide (HAL.out.mono (S' := [g]) (by simp) |>.trans ho); have HF := hide (HF.out.only ho hwg); have HMB := hide (HMB.out.only ho (by simpa using Ne.symm hgM)); clear ha ho; have f0 := HF.out.cell 0; have f3 := HF.out.cell 3; simp at f0 f3)
          | (go_at_call 109; refine (HT.out _ HA.out).mono ?_; rintro e w2 ⟨G, O, cap, rfl, hr, ha, ho⟩; have hcv := rd_string (P := Tryd.prog) hr 23 9 5 Tryd.underlying23 Tryd.underlying5 Tryd.underlying9; have HA := hide ha; have HO := hide (HO.out.trans ho); have HF := hide (HF.out.only ho hwg); have HMB := hide (HMB.out.only ho (by simpa using Ne.symm hgM)); clear ha ho hr; have f0 := HF.out.cell 0; have f3 := HF.out.cell 3; simp at f0 f3)
          | (go_at_call 110; refine (HFT.out _).mono ?_; rintro e w3 ⟨rfl, ho⟩; have HA := hide (HA.out.only ho (by simp) (by simp)); have HO := hide (HO.out.trans (ho.mono (by simp))); have HF := hide (HF.out.only ho (by simp)); have HMB := hide (HMB.out.only ho (by simp)); clear ho; have f0 := HF.out.cell 0; have f3 := HF.out.cell 3; simp at f0 f3; have m0 := (HMB.out.cell 4).trans HU.out; have mf := HMB.out.frozen 4)
          | (go_at_call 98; refine (place4 M _).mono ?_; rintro e w4 ⟨rfl, rfl⟩))
        go_ret
        exact field_yes HV.out HO.out HA.out hM hgM HM0.out
      · have HV := hide (show (textV l).1 = 3 by rw [HTV.out, if_neg h3, if_neg (by rw [hf]; decide)])
        rw [hf] at HFT
        clear h3 hf
        go_enter Tryd.func77, Tryd.ntmps77
        go_wp2_with (first
          | (go_at_call 94; refine HN.out.mono ?_; rintro e w1 ⟨rfl, ha, ho⟩; have HA := hide ha; have HO := hide (HAL.out.mono (S' := [g]) (by simp) |>.trans ho); have HF := hide (HF.out.only ho hwg); clear ha ho; have f0 := HF.out.cell 0; have f3 := HF.out.cell 3; simp at f0 f3)
          | (go_at_call 109; refine (HT.out _ HA.out).mono ?_; rintro e w2 ⟨G, O, cap, rfl, hr, ha, ho⟩; have hcv := rd_string (P := Tryd.prog) hr 23 9 5 Tryd.underlying23 Tryd.underlying5 Tryd.underlying9; have HA := hide ha; have HO := hide (HO.out.trans ho); have HF := hide (HF.out.only ho hwg); clear ha ho hr; have f0 := HF.out.cell 0; have f3 := HF.out.cell 3; simp at f0 f3)
          | (go_at_call 110; refine (HFT.out _).mono ?_; rintro e w3 ⟨rfl, ho⟩; have HO := hide (HO.out.trans (ho.mono (by simp))); clear ho))
        go_ret
        exact field_no HV.out (by decide) (HO.out.mono (by simp))

set_option maxRecDepth 100000 in
set_option maxHeartbeats 6400000 in
theorem field_5 (w : World) (N : List Nat) (g M : Nat) (l : List UInt8) (hl : l.length ≤ 1099511627776) (cs : Array Value) {u : Value} (hu : cs[5]? = some u) (h : RdrAt w N g l) (hM : M ∈ N) (hgM : g ≠ M) (hb : Blk w M 78 cs) :
    Calls Tryd.prog 77 #[.pointer (some ⟨g, 0, none⟩), .agg #[.int .i64 0, .nilFunc, .nilFunc, .func (.func 101) #[] #[]], .pointer (some ⟨M, 0, none⟩)] w (FieldPost N g M 5 cs ((textV l).1, .string (textV l).2.1, (textV l).2.2) w) := by
  have hst := fun (W : World) (a : Addr) (fn : Fn) (c : Array Value) => (run_store Tryd.prog W a (.func fn #[] c) .plain rfl : (store a (.func fn #[] c)).run Tryd.prog W = stored Tryd.prog W a (.func fn #[] c) .plain)
  have hsn := fun (W : World) (a : Addr) => (run_store Tryd.prog W a .nilFunc .plain rfl : (store a .nilFunc).run Tryd.prog W = stored Tryd.prog W a .nilFunc .plain)
  have HAL := hide (show Only [] w (w.alloc (.cells #[.int .i64 0, .nilFunc, .nilFunc, .func (.func 101) #[] #[]] 126)) from (Only.refl [] w).alloc _)
  have HF := hide (Blk.new w 126 #[.int .i64 0, .nilFunc, .nilFunc, .func (.func 101) #[] #[]])
  have HA := hide (h.only HAL.out (by simp) (by simp))
  have HMB := hide (hb.only HAL.out (by simp))
  have HM0 := hide hb
  have hglt : g < w.heap.size := by obtain ⟨_, _, _, hb1, _⟩ := h; exact hb1.lt
  have hwg : w.heap.size ∉ [g] := by simp; omega
  have HN := hide (number_w _ N g 2 l hl (by omega) HA.out)
  have HU := hide hu
  clear h hb hu
  by_cases h2 : l.length < 2
  · have HV := hide (show (textV l).1 = 4 by unfold textV; rw [if_pos h2])
    unfold NumPostW at HN
    simp only [if_pos h2] at HN
    clear h2
    go_enter Tryd.func77, Tryd.ntmps77
    go_wp2_with (go_at_call 94; refine HN.out.mono ?_; rintro e w1 ⟨rfl, rfl⟩)
    go_ret
    exact field_no HV.out (by decide) (HAL.out.mono (by simp))
  · obtain ⟨n, hn⟩ : ∃ n, n = lowV (l.take 2) := ⟨_, rfl⟩
    obtain ⟨q, hq⟩ : ∃ q, q = l.drop 2 := ⟨_, rfl⟩
    have hn6 : n < 65536 := by have h := lowV_lt (l.take 2); rw [List.length_take, Nat.min_eq_left (by omega)] at h; omega
    have hql : q.length ≤ 1099511627776 := by rw [hq, List.length_drop]; omega
    have HTV := hide (show textV l = if q.length < n then (4, ByteArray.empty, []) else if fitW ⟨(q.take n).toArray⟩ = true then (0, ⟨(q.take n).toArray⟩, q.drop n) else (3, ByteArray.empty, []) by unfold textV; rw [if_neg h2, ← hn, ← hq])
    unfold NumPostW at HN
    simp only [if_neg h2] at HN
    rw [← hn, ← hq] at HN
    have HT := hide (fun W (h : RdrAt W N g q) => take_w W N g n q hql (by omega) h)
    have hwn : IntKind.i64.wrap (n : Int) = n := by rw [IntKind.wrap_i64]; omega
    have HFT := hide (fun W => fit_any W ⟨(q.take n).toArray⟩ (by rw [size_toArray_, List.length_take]; unfold maxLen; omega))
    unfold RetB at HFT
    clear h2 hn hq hn6 hql
    by_cases h3 : q.length < n
    · have HV := hide (show (textV l).1 = 4 by rw [HTV.out, if_pos h3])
      unfold TakePostW at HT
      simp only [if_pos h3] at HT
      clear h3
      go_enter Tryd.func77, Tryd.ntmps77
      go_wp2_with (first
        | (go_at_call 94; refine HN.out.mono ?_; rintro e w1 ⟨rfl, ha, ho⟩; have HA := hide ha; have HO := hide (HAL.out.mono (S' := [g]) (by simp) |>.trans ho); have HF := hide (HF.out.only ho hwg); clear ha ho; have f0 := HF.out.cell 0; have f3 := HF.out.cell 3; simp at f0 f3)
        | (go_at_call 109; refine (HT.out _ HA.out).mono ?_; rintro e w2 ⟨rfl, rfl⟩))
      go_ret
      exact field_no HV.out (by decide) (HO.out.mono (by simp))
    · unfold TakePostW at HT
      simp only [if_neg h3] at HT
      rcases Bool.eq_false_or_eq_true (fitW ⟨(q.take n).toArray⟩) with hf | hf
      · have HV := hide (show ((textV l).1, Value.string (textV l).2.1, (textV l).2.2) = (0, Value.string ⟨(q.take n).toArray⟩, q.drop n) by rw [HTV.out, if_neg h3, if_pos hf])
        rw [hf] at HFT
        clear h3 hf
        go_enter Tryd.func77, Tryd.ntmps77
        go_wp2_with (first
          | (go_at_call 94; refine HN.out.mono ?_; rintro e w1 ⟨rfl, ha, ho⟩; have HA := hide ha; have HO := hide (HAL.out.mono (S' := [g]) (by simp) |>.trans ho); have HF := hide (HF.out.only ho hwg); have HMB := hide (HMB.out.only ho (by simpa using Ne.symm hgM)); clear ha ho; have f0 := HF.out.cell 0; have f3 := HF.out.cell 3; simp at f0 f3)
          | (go_at_call 109; refine (HT.out _ HA.out).mono ?_; rintro e w2 ⟨G, O, cap, rfl, hr, ha, ho⟩; have hcv := rd_string (P := Tryd.prog) hr 23 9 5 Tryd.underlying23 Tryd.underlying5 Tryd.underlying9; have HA := hide ha; have HO := hide (HO.out.trans ho); have HF := hide (HF.out.only ho hwg); have HMB := hide (HMB.out.only ho (by simpa using Ne.symm hgM)); clear ha ho hr; have f0 := HF.out.cell 0; have f3 := HF.out.cell 3; simp at f0 f3)
          | (go_at_call 110; refine (HFT.out _).mono ?_; rintro e w3 ⟨rfl, ho⟩; have HA := hide (HA.out.only ho (by simp) (by simp)); have HO := hide (HO.out.trans (ho.mono (by simp))); have HF := hide (HF.out.only ho (by simp)); have HMB := hide (HMB.out.only ho (by simp)); clear ho; have f0 := HF.out.cell 0; have f3 := HF.out.cell 3; simp at f0 f3; have m0 := (HMB.out.cell 5).trans HU.out; have mf := HMB.out.frozen 5)
          | (go_at_call 101; refine (place5 M _).mono ?_; rintro e w4 ⟨rfl, rfl⟩))
        go_ret
        exact field_yes HV.out HO.out HA.out hM hgM HM0.out
      · have HV := hide (show (textV l).1 = 3 by rw [HTV.out, if_neg h3, if_neg (by rw [hf]; decide)])
        rw [hf] at HFT
        clear h3 hf
        go_enter Tryd.func77, Tryd.ntmps77
        go_wp2_with (first
          | (go_at_call 94; refine HN.out.mono ?_; rintro e w1 ⟨rfl, ha, ho⟩; have HA := hide ha; have HO := hide (HAL.out.mono (S' := [g]) (by simp) |>.trans ho); have HF := hide (HF.out.only ho hwg); clear ha ho; have f0 := HF.out.cell 0; have f3 := HF.out.cell 3; simp at f0 f3)
          | (go_at_call 109; refine (HT.out _ HA.out).mono ?_; rintro e w2 ⟨G, O, cap, rfl, hr, ha, ho⟩; have hcv := rd_string (P := Tryd.prog) hr 23 9 5 Tryd.underlying23 Tryd.underlying5 Tryd.underlying9; have HA := hide ha; have HO := hide (HO.out.trans ho); have HF := hide (HF.out.only ho hwg); clear ha ho hr; have f0 := HF.out.cell 0; have f3 := HF.out.cell 3; simp at f0 f3)
          | (go_at_call 110; refine (HFT.out _).mono ?_; rintro e w3 ⟨rfl, ho⟩; have HO := hide (HO.out.trans (ho.mono (by simp))); clear ho))
        go_ret
        exact field_no HV.out (by decide) (HO.out.mono (by simp))

set_option maxRecDepth 100000 in
set_option maxHeartbeats 6400000 in
theorem field_6 (w : World) (N : List Nat) (g M : Nat) (l : List UInt8) (hl : l.length ≤ 1099511627776) (cs : Array Value) {u : Value} (hu : cs[6]? = some u) (h : RdrAt w N g l) (hM : M ∈ N) (hgM : g ≠ M) (hb : Blk w M 78 cs) :
    Calls Tryd.prog 77 #[.pointer (some ⟨g, 0, none⟩), .agg #[.int .i64 0, .nilFunc, .nilFunc, .func (.func 102) #[] #[]], .pointer (some ⟨M, 0, none⟩)] w (FieldPost N g M 6 cs ((textV l).1, .string (textV l).2.1, (textV l).2.2) w) := by
  have hst := fun (W : World) (a : Addr) (fn : Fn) (c : Array Value) => (run_store Tryd.prog W a (.func fn #[] c) .plain rfl : (store a (.func fn #[] c)).run Tryd.prog W = stored Tryd.prog W a (.func fn #[] c) .plain)
  have hsn := fun (W : World) (a : Addr) => (run_store Tryd.prog W a .nilFunc .plain rfl : (store a .nilFunc).run Tryd.prog W = stored Tryd.prog W a .nilFunc .plain)
  have HAL := hide (show Only [] w (w.alloc (.cells #[.int .i64 0, .nilFunc, .nilFunc, .func (.func 102) #[] #[]] 126)) from (Only.refl [] w).alloc _)
  have HF := hide (Blk.new w 126 #[.int .i64 0, .nilFunc, .nilFunc, .func (.func 102) #[] #[]])
  have HA := hide (h.only HAL.out (by simp) (by simp))
  have HMB := hide (hb.only HAL.out (by simp))
  have HM0 := hide hb
  have hglt : g < w.heap.size := by obtain ⟨_, _, _, hb1, _⟩ := h; exact hb1.lt
  have hwg : w.heap.size ∉ [g] := by simp; omega
  have HN := hide (number_w _ N g 2 l hl (by omega) HA.out)
  have HU := hide hu
  clear h hb hu
  by_cases h2 : l.length < 2
  · have HV := hide (show (textV l).1 = 4 by unfold textV; rw [if_pos h2])
    unfold NumPostW at HN
    simp only [if_pos h2] at HN
    clear h2
    go_enter Tryd.func77, Tryd.ntmps77
    go_wp2_with (go_at_call 94; refine HN.out.mono ?_; rintro e w1 ⟨rfl, rfl⟩)
    go_ret
    exact field_no HV.out (by decide) (HAL.out.mono (by simp))
  · obtain ⟨n, hn⟩ : ∃ n, n = lowV (l.take 2) := ⟨_, rfl⟩
    obtain ⟨q, hq⟩ : ∃ q, q = l.drop 2 := ⟨_, rfl⟩
    have hn6 : n < 65536 := by have h := lowV_lt (l.take 2); rw [List.length_take, Nat.min_eq_left (by omega)] at h; omega
    have hql : q.length ≤ 1099511627776 := by rw [hq, List.length_drop]; omega
    have HTV := hide (show textV l = if q.length < n then (4, ByteArray.empty, []) else if fitW ⟨(q.take n).toArray⟩ = true then (0, ⟨(q.take n).toArray⟩, q.drop n) else (3, ByteArray.empty, []) by unfold textV; rw [if_neg h2, ← hn, ← hq])
    unfold NumPostW at HN
    simp only [if_neg h2] at HN
    rw [← hn, ← hq] at HN
    have HT := hide (fun W (h : RdrAt W N g q) => take_w W N g n q hql (by omega) h)
    have hwn : IntKind.i64.wrap (n : Int) = n := by rw [IntKind.wrap_i64]; omega
    have HFT := hide (fun W => fit_any W ⟨(q.take n).toArray⟩ (by rw [size_toArray_, List.length_take]; unfold maxLen; omega))
    unfold RetB at HFT
    clear h2 hn hq hn6 hql
    by_cases h3 : q.length < n
    · have HV := hide (show (textV l).1 = 4 by rw [HTV.out, if_pos h3])
      unfold TakePostW at HT
      simp only [if_pos h3] at HT
      clear h3
      go_enter Tryd.func77, Tryd.ntmps77
      go_wp2_with (first
        | (go_at_call 94; refine HN.out.mono ?_; rintro e w1 ⟨rfl, ha, ho⟩; have HA := hide ha; have HO := hide (HAL.out.mono (S' := [g]) (by simp) |>.trans ho); have HF := hide (HF.out.only ho hwg); clear ha ho; have f0 := HF.out.cell 0; have f3 := HF.out.cell 3; simp at f0 f3)
        | (go_at_call 109; refine (HT.out _ HA.out).mono ?_; rintro e w2 ⟨rfl, rfl⟩))
      go_ret
      exact field_no HV.out (by decide) (HO.out.mono (by simp))
    · unfold TakePostW at HT
      simp only [if_neg h3] at HT
      rcases Bool.eq_false_or_eq_true (fitW ⟨(q.take n).toArray⟩) with hf | hf
      · have HV := hide (show ((textV l).1, Value.string (textV l).2.1, (textV l).2.2) = (0, Value.string ⟨(q.take n).toArray⟩, q.drop n) by rw [HTV.out, if_neg h3, if_pos hf])
        rw [hf] at HFT
        clear h3 hf
        go_enter Tryd.func77, Tryd.ntmps77
        go_wp2_with (first
          | (go_at_call 94; refine HN.out.mono ?_; rintro e w1 ⟨rfl, ha, ho⟩; have HA := hide ha; have HO := hide (HAL.out.mono (S' := [g]) (by simp) |>.trans ho); have HF := hide (HF.out.only ho hwg); have HMB := hide (HMB.out.only ho (by simpa using Ne.symm hgM)); clear ha ho; have f0 := HF.out.cell 0; have f3 := HF.out.cell 3; simp at f0 f3)
          | (go_at_call 109; refine (HT.out _ HA.out).mono ?_; rintro e w2 ⟨G, O, cap, rfl, hr, ha, ho⟩; have hcv := rd_string (P := Tryd.prog) hr 23 9 5 Tryd.underlying23 Tryd.underlying5 Tryd.underlying9; have HA := hide ha; have HO := hide (HO.out.trans ho); have HF := hide (HF.out.only ho hwg); have HMB := hide (HMB.out.only ho (by simpa using Ne.symm hgM)); clear ha ho hr; have f0 := HF.out.cell 0; have f3 := HF.out.cell 3; simp at f0 f3)
          | (go_at_call 110; refine (HFT.out _).mono ?_; rintro e w3 ⟨rfl, ho⟩; have HA := hide (HA.out.only ho (by simp) (by simp)); have HO := hide (HO.out.trans (ho.mono (by simp))); have HF := hide (HF.out.only ho (by simp)); have HMB := hide (HMB.out.only ho (by simp)); clear ho; have f0 := HF.out.cell 0; have f3 := HF.out.cell 3; simp at f0 f3; have m0 := (HMB.out.cell 6).trans HU.out; have mf := HMB.out.frozen 6)
          | (go_at_call 102; refine (place6 M _).mono ?_; rintro e w4 ⟨rfl, rfl⟩))
        go_ret
        exact field_yes HV.out HO.out HA.out hM hgM HM0.out
      · have HV := hide (show (textV l).1 = 3 by rw [HTV.out, if_neg h3, if_neg (by rw [hf]; decide)])
        rw [hf] at HFT
        clear h3 hf
        go_enter Tryd.func77, Tryd.ntmps77
        go_wp2_with (first
          | (go_at_call 94; refine HN.out.mono ?_; rintro e w1 ⟨rfl, ha, ho⟩; have HA := hide ha; have HO := hide (HAL.out.mono (S' := [g]) (by simp) |>.trans ho); have HF := hide (HF.out.only ho hwg); clear ha ho; have f0 := HF.out.cell 0; have f3 := HF.out.cell 3; simp at f0 f3)
          | (go_at_call 109; refine (HT.out _ HA.out).mono ?_; rintro e w2 ⟨G, O, cap, rfl, hr, ha, ho⟩; have hcv := rd_string (P := Tryd.prog) hr 23 9 5 Tryd.underlying23 Tryd.underlying5 Tryd.underlying9; have HA := hide ha; have HO := hide (HO.out.trans ho); have HF := hide (HF.out.only ho hwg); clear ha ho hr; have f0 := HF.out.cell 0; have f3 := HF.out.cell 3; simp at f0 f3)
          | (go_at_call 110; refine (HFT.out _).mono ?_; rintro e w3 ⟨rfl, ho⟩; have HO := hide (HO.out.trans (ho.mono (by simp))); clear ho))
        go_ret
        exact field_no HV.out (by decide) (HO.out.mono (by simp))

set_option maxRecDepth 100000 in
set_option maxHeartbeats 6400000 in
theorem field_7 (w : World) (N : List Nat) (g M : Nat) (l : List UInt8) (hl : l.length ≤ 1099511627776) (cs : Array Value) {u : Value} (hu : cs[7]? = some u) (h : RdrAt w N g l) (hM : M ∈ N) (hgM : g ≠ M) (hb : Blk w M 78 cs) :
    Calls Tryd.prog 77 #[.pointer (some ⟨g, 0, none⟩), .agg #[.int .i64 0, .nilFunc, .nilFunc, .func (.func 103) #[] #[]], .pointer (some ⟨M, 0, none⟩)] w (FieldPost N g M 7 cs ((textV l).1, .string (textV l).2.1, (textV l).2.2) w) := by
  have hst := fun (W : World) (a : Addr) (fn : Fn) (c : Array Value) => (run_store Tryd.prog W a (.func fn #[] c) .plain rfl : (store a (.func fn #[] c)).run Tryd.prog W = stored Tryd.prog W a (.func fn #[] c) .plain)
  have hsn := fun (W : World) (a : Addr) => (run_store Tryd.prog W a .nilFunc .plain rfl : (store a .nilFunc).run Tryd.prog W = stored Tryd.prog W a .nilFunc .plain)
  have HAL := hide (show Only [] w (w.alloc (.cells #[.int .i64 0, .nilFunc, .nilFunc, .func (.func 103) #[] #[]] 126)) from (Only.refl [] w).alloc _)
  have HF := hide (Blk.new w 126 #[.int .i64 0, .nilFunc, .nilFunc, .func (.func 103) #[] #[]])
  have HA := hide (h.only HAL.out (by simp) (by simp))
  have HMB := hide (hb.only HAL.out (by simp))
  have HM0 := hide hb
  have hglt : g < w.heap.size := by obtain ⟨_, _, _, hb1, _⟩ := h; exact hb1.lt
  have hwg : w.heap.size ∉ [g] := by simp; omega
  have HN := hide (number_w _ N g 2 l hl (by omega) HA.out)
  have HU := hide hu
  clear h hb hu
  by_cases h2 : l.length < 2
  · have HV := hide (show (textV l).1 = 4 by unfold textV; rw [if_pos h2])
    unfold NumPostW at HN
    simp only [if_pos h2] at HN
    clear h2
    go_enter Tryd.func77, Tryd.ntmps77
    go_wp2_with (go_at_call 94; refine HN.out.mono ?_; rintro e w1 ⟨rfl, rfl⟩)
    go_ret
    exact field_no HV.out (by decide) (HAL.out.mono (by simp))
  · obtain ⟨n, hn⟩ : ∃ n, n = lowV (l.take 2) := ⟨_, rfl⟩
    obtain ⟨q, hq⟩ : ∃ q, q = l.drop 2 := ⟨_, rfl⟩
    have hn6 : n < 65536 := by have h := lowV_lt (l.take 2); rw [List.length_take, Nat.min_eq_left (by omega)] at h; omega
    have hql : q.length ≤ 1099511627776 := by rw [hq, List.length_drop]; omega
    have HTV := hide (show textV l = if q.length < n then (4, ByteArray.empty, []) else if fitW ⟨(q.take n).toArray⟩ = true then (0, ⟨(q.take n).toArray⟩, q.drop n) else (3, ByteArray.empty, []) by unfold textV; rw [if_neg h2, ← hn, ← hq])
    unfold NumPostW at HN
    simp only [if_neg h2] at HN
    rw [← hn, ← hq] at HN
    have HT := hide (fun W (h : RdrAt W N g q) => take_w W N g n q hql (by omega) h)
    have hwn : IntKind.i64.wrap (n : Int) = n := by rw [IntKind.wrap_i64]; omega
    have HFT := hide (fun W => fit_any W ⟨(q.take n).toArray⟩ (by rw [size_toArray_, List.length_take]; unfold maxLen; omega))
    unfold RetB at HFT
    clear h2 hn hq hn6 hql
    by_cases h3 : q.length < n
    · have HV := hide (show (textV l).1 = 4 by rw [HTV.out, if_pos h3])
      unfold TakePostW at HT
      simp only [if_pos h3] at HT
      clear h3
      go_enter Tryd.func77, Tryd.ntmps77
      go_wp2_with (first
        | (go_at_call 94; refine HN.out.mono ?_; rintro e w1 ⟨rfl, ha, ho⟩; have HA := hide ha; have HO := hide (HAL.out.mono (S' := [g]) (by simp) |>.trans ho); have HF := hide (HF.out.only ho hwg); clear ha ho; have f0 := HF.out.cell 0; have f3 := HF.out.cell 3; simp at f0 f3)
        | (go_at_call 109; refine (HT.out _ HA.out).mono ?_; rintro e w2 ⟨rfl, rfl⟩))
      go_ret
      exact field_no HV.out (by decide) (HO.out.mono (by simp))
    · unfold TakePostW at HT
      simp only [if_neg h3] at HT
      rcases Bool.eq_false_or_eq_true (fitW ⟨(q.take n).toArray⟩) with hf | hf
      · have HV := hide (show ((textV l).1, Value.string (textV l).2.1, (textV l).2.2) = (0, Value.string ⟨(q.take n).toArray⟩, q.drop n) by rw [HTV.out, if_neg h3, if_pos hf])
        rw [hf] at HFT
        clear h3 hf
        go_enter Tryd.func77, Tryd.ntmps77
        go_wp2_with (first
          | (go_at_call 94; refine HN.out.mono ?_; rintro e w1 ⟨rfl, ha, ho⟩; have HA := hide ha; have HO := hide (HAL.out.mono (S' := [g]) (by simp) |>.trans ho); have HF := hide (HF.out.only ho hwg); have HMB := hide (HMB.out.only ho (by simpa using Ne.symm hgM)); clear ha ho; have f0 := HF.out.cell 0; have f3 := HF.out.cell 3; simp at f0 f3)
          | (go_at_call 109; refine (HT.out _ HA.out).mono ?_; rintro e w2 ⟨G, O, cap, rfl, hr, ha, ho⟩; have hcv := rd_string (P := Tryd.prog) hr 23 9 5 Tryd.underlying23 Tryd.underlying5 Tryd.underlying9; have HA := hide ha; have HO := hide (HO.out.trans ho); have HF := hide (HF.out.only ho hwg); have HMB := hide (HMB.out.only ho (by simpa using Ne.symm hgM)); clear ha ho hr; have f0 := HF.out.cell 0; have f3 := HF.out.cell 3; simp at f0 f3)
          | (go_at_call 110; refine (HFT.out _).mono ?_; rintro e w3 ⟨rfl, ho⟩; have HA := hide (HA.out.only ho (by simp) (by simp)); have HO := hide (HO.out.trans (ho.mono (by simp))); have HF := hide (HF.out.only ho (by simp)); have HMB := hide (HMB.out.only ho (by simp)); clear ho; have f0 := HF.out.cell 0; have f3 := HF.out.cell 3; simp at f0 f3; have m0 := (HMB.out.cell 7).trans HU.out; have mf := HMB.out.frozen 7)
          | (go_at_call 103; refine (place7 M _).mono ?_; rintro e w4 ⟨rfl, rfl⟩))
        go_ret
        exact field_yes HV.out HO.out HA.out hM hgM HM0.out
      · have HV := hide (show (textV l).1 = 3 by rw [HTV.out, if_neg h3, if_neg (by rw [hf]; decide)])
        rw [hf] at HFT
        clear h3 hf
        go_enter Tryd.func77, Tryd.ntmps77
        go_wp2_with (first
          | (go_at_call 94; refine HN.out.mono ?_; rintro e w1 ⟨rfl, ha, ho⟩; have HA := hide ha; have HO := hide (HAL.out.mono (S' := [g]) (by simp) |>.trans ho); have HF := hide (HF.out.only ho hwg); clear ha ho; have f0 := HF.out.cell 0; have f3 := HF.out.cell 3; simp at f0 f3)
          | (go_at_call 109; refine (HT.out _ HA.out).mono ?_; rintro e w2 ⟨G, O, cap, rfl, hr, ha, ho⟩; have hcv := rd_string (P := Tryd.prog) hr 23 9 5 Tryd.underlying23 Tryd.underlying5 Tryd.underlying9; have HA := hide ha; have HO := hide (HO.out.trans ho); have HF := hide (HF.out.only ho hwg); clear ha ho hr; have f0 := HF.out.cell 0; have f3 := HF.out.cell 3; simp at f0 f3)
          | (go_at_call 110; refine (HFT.out _).mono ?_; rintro e w3 ⟨rfl, ho⟩; have HO := hide (HO.out.trans (ho.mono (by simp))); clear ho))
        go_ret
        exact field_no HV.out (by decide) (HO.out.mono (by simp))

set_option maxRecDepth 100000 in
set_option maxHeartbeats 6400000 in
theorem field_8 (w : World) (N : List Nat) (g M : Nat) (l : List UInt8) (hl : l.length ≤ 1099511627776) (cs : Array Value) {u : Value} (hu : cs[8]? = some u) (h : RdrAt w N g l) (hM : M ∈ N) (hgM : g ≠ M) (hb : Blk w M 78 cs) :
    Calls Tryd.prog 77 #[.pointer (some ⟨g, 0, none⟩), .agg #[.int .i64 0, .nilFunc, .nilFunc, .func (.func 104) #[] #[]], .pointer (some ⟨M, 0, none⟩)] w (FieldPost N g M 8 cs ((textV l).1, .string (textV l).2.1, (textV l).2.2) w) := by
  have hst := fun (W : World) (a : Addr) (fn : Fn) (c : Array Value) => (run_store Tryd.prog W a (.func fn #[] c) .plain rfl : (store a (.func fn #[] c)).run Tryd.prog W = stored Tryd.prog W a (.func fn #[] c) .plain)
  have hsn := fun (W : World) (a : Addr) => (run_store Tryd.prog W a .nilFunc .plain rfl : (store a .nilFunc).run Tryd.prog W = stored Tryd.prog W a .nilFunc .plain)
  have HAL := hide (show Only [] w (w.alloc (.cells #[.int .i64 0, .nilFunc, .nilFunc, .func (.func 104) #[] #[]] 126)) from (Only.refl [] w).alloc _)
  have HF := hide (Blk.new w 126 #[.int .i64 0, .nilFunc, .nilFunc, .func (.func 104) #[] #[]])
  have HA := hide (h.only HAL.out (by simp) (by simp))
  have HMB := hide (hb.only HAL.out (by simp))
  have HM0 := hide hb
  have hglt : g < w.heap.size := by obtain ⟨_, _, _, hb1, _⟩ := h; exact hb1.lt
  have hwg : w.heap.size ∉ [g] := by simp; omega
  have HN := hide (number_w _ N g 2 l hl (by omega) HA.out)
  have HU := hide hu
  clear h hb hu
  by_cases h2 : l.length < 2
  · have HV := hide (show (textV l).1 = 4 by unfold textV; rw [if_pos h2])
    unfold NumPostW at HN
    simp only [if_pos h2] at HN
    clear h2
    go_enter Tryd.func77, Tryd.ntmps77
    go_wp2_with (go_at_call 94; refine HN.out.mono ?_; rintro e w1 ⟨rfl, rfl⟩)
    go_ret
    exact field_no HV.out (by decide) (HAL.out.mono (by simp))
  · obtain ⟨n, hn⟩ : ∃ n, n = lowV (l.take 2) := ⟨_, rfl⟩
    obtain ⟨q, hq⟩ : ∃ q, q = l.drop 2 := ⟨_, rfl⟩
    have hn6 : n < 65536 := by have h := lowV_lt (l.take 2); rw [List.length_take, Nat.min_eq_left (by omega)] at h; omega
    have hql : q.length ≤ 1099511627776 := by rw [hq, List.length_drop]; omega
    have HTV := hide (show textV l = if q.length < n then (4, ByteArray.empty, []) else if fitW ⟨(q.take n).toArray⟩ = true then (0, ⟨(q.take n).toArray⟩, q.drop n) else (3, ByteArray.empty, []) by unfold textV; rw [if_neg h2, ← hn, ← hq])
    unfold NumPostW at HN
    simp only [if_neg h2] at HN
    rw [← hn, ← hq] at HN
    have HT := hide (fun W (h : RdrAt W N g q) => take_w W N g n q hql (by omega) h)
    have hwn : IntKind.i64.wrap (n : Int) = n := by rw [IntKind.wrap_i64]; omega
    have HFT := hide (fun W => fit_any W ⟨(q.take n).toArray⟩ (by rw [size_toArray_, List.length_take]; unfold maxLen; omega))
    unfold RetB at HFT
    clear h2 hn hq hn6 hql
    by_cases h3 : q.length < n
    · have HV := hide (show (textV l).1 = 4 by rw [HTV.out, if_pos h3])
      unfold TakePostW at HT
      simp only [if_pos h3] at HT
      clear h3
      go_enter Tryd.func77, Tryd.ntmps77
      go_wp2_with (first
        | (go_at_call 94; refine HN.out.mono ?_; rintro e w1 ⟨rfl, ha, ho⟩; have HA := hide ha; have HO := hide (HAL.out.mono (S' := [g]) (by simp) |>.trans ho); have HF := hide (HF.out.only ho hwg); clear ha ho; have f0 := HF.out.cell 0; have f3 := HF.out.cell 3; simp at f0 f3)
        | (go_at_call 109; refine (HT.out _ HA.out).mono ?_; rintro e w2 ⟨rfl, rfl⟩))
      go_ret
      exact field_no HV.out (by decide) (HO.out.mono (by simp))
    · unfold TakePostW at HT
      simp only [if_neg h3] at HT
      rcases Bool.eq_false_or_eq_true (fitW ⟨(q.take n).toArray⟩) with hf | hf
      · have HV := hide (show ((textV l).1, Value.string (textV l).2.1, (textV l).2.2) = (0, Value.string ⟨(q.take n).toArray⟩, q.drop n) by rw [HTV.out, if_neg h3, if_pos hf])
        rw [hf] at HFT
        clear h3 hf
        go_enter Tryd.func77, Tryd.ntmps77
        go_wp2_with (first
          | (go_at_call 94; refine HN.out.mono ?_; rintro e w1 ⟨rfl, ha, ho⟩; have HA := hide ha; have HO := hide (HAL.out.mono (S' := [g]) (by simp) |>.trans ho); have HF := hide (HF.out.only ho hwg); have HMB := hide (HMB.out.only ho (by simpa using Ne.symm hgM)); clear ha ho; have f0 := HF.out.cell 0; have f3 := HF.out.cell 3; simp at f0 f3)
          | (go_at_call 109; refine (HT.out _ HA.out).mono ?_; rintro e w2 ⟨G, O, cap, rfl, hr, ha, ho⟩; have hcv := rd_string (P := Tryd.prog) hr 23 9 5 Tryd.underlying23 Tryd.underlying5 Tryd.underlying9; have HA := hide ha; have HO := hide (HO.out.trans ho); have HF := hide (HF.out.only ho hwg); have HMB := hide (HMB.out.only ho (by simpa using Ne.symm hgM)); clear ha ho hr; have f0 := HF.out.cell 0; have f3 := HF.out.cell 3; simp at f0 f3)
          | (go_at_call 110; refine (HFT.out _).mono ?_; rintro e w3 ⟨rfl, ho⟩; have HA := hide (HA.out.only ho (by simp) (by simp)); have HO := hide (HO.out.trans (ho.mono (by simp))); have HF := hide (HF.out.only ho (by simp)); have HMB := hide (HMB.out.only ho (by simp)); clear ho; have f0 := HF.out.cell 0; have f3 := HF.out.cell 3; simp at f0 f3; have m0 := (HMB.out.cell 8).trans HU.out; have mf := HMB.out.frozen 8)
          | (go_at_call 104; refine (place8 M _).mono ?_; rintro e w4 ⟨rfl, rfl⟩))
        go_ret
        exact field_yes HV.out HO.out HA.out hM hgM HM0.out
      · have HV := hide (show (textV l).1 = 3 by rw [HTV.out, if_neg h3, if_neg (by rw [hf]; decide)])
        rw [hf] at HFT
        clear h3 hf
        go_enter Tryd.func77, Tryd.ntmps77
        go_wp2_with (first
          | (go_at_call 94; refine HN.out.mono ?_; rintro e w1 ⟨rfl, ha, ho⟩; have HA := hide ha; have HO := hide (HAL.out.mono (S' := [g]) (by simp) |>.trans ho); have HF := hide (HF.out.only ho hwg); clear ha ho; have f0 := HF.out.cell 0; have f3 := HF.out.cell 3; simp at f0 f3)
          | (go_at_call 109; refine (HT.out _ HA.out).mono ?_; rintro e w2 ⟨G, O, cap, rfl, hr, ha, ho⟩; have hcv := rd_string (P := Tryd.prog) hr 23 9 5 Tryd.underlying23 Tryd.underlying5 Tryd.underlying9; have HA := hide ha; have HO := hide (HO.out.trans ho); have HF := hide (HF.out.only ho hwg); clear ha ho hr; have f0 := HF.out.cell 0; have f3 := HF.out.cell 3; simp at f0 f3)
          | (go_at_call 110; refine (HFT.out _).mono ?_; rintro e w3 ⟨rfl, ho⟩; have HO := hide (HO.out.trans (ho.mono (by simp))); clear ho))
        go_ret
        exact field_no HV.out (by decide) (HO.out.mono (by simp))

set_option maxRecDepth 100000 in
set_option maxHeartbeats 6400000 in
theorem field_9 (w : World) (N : List Nat) (g M : Nat) (l : List UInt8) (hl : l.length ≤ 1099511627776) (cs : Array Value) {u : Value} (hu : cs[9]? = some u) (h : RdrAt w N g l) (hM : M ∈ N) (hgM : g ≠ M) (hb : Blk w M 78 cs) :
    Calls Tryd.prog 77 #[.pointer (some ⟨g, 0, none⟩), .agg #[.int .i64 0, .nilFunc, .nilFunc, .func (.func 105) #[] #[]], .pointer (some ⟨M, 0, none⟩)] w (FieldPost N g M 9 cs ((textV l).1, .string (textV l).2.1, (textV l).2.2) w) := by
  have hst := fun (W : World) (a : Addr) (fn : Fn) (c : Array Value) => (run_store Tryd.prog W a (.func fn #[] c) .plain rfl : (store a (.func fn #[] c)).run Tryd.prog W = stored Tryd.prog W a (.func fn #[] c) .plain)
  have hsn := fun (W : World) (a : Addr) => (run_store Tryd.prog W a .nilFunc .plain rfl : (store a .nilFunc).run Tryd.prog W = stored Tryd.prog W a .nilFunc .plain)
  have HAL := hide (show Only [] w (w.alloc (.cells #[.int .i64 0, .nilFunc, .nilFunc, .func (.func 105) #[] #[]] 126)) from (Only.refl [] w).alloc _)
  have HF := hide (Blk.new w 126 #[.int .i64 0, .nilFunc, .nilFunc, .func (.func 105) #[] #[]])
  have HA := hide (h.only HAL.out (by simp) (by simp))
  have HMB := hide (hb.only HAL.out (by simp))
  have HM0 := hide hb
  have hglt : g < w.heap.size := by obtain ⟨_, _, _, hb1, _⟩ := h; exact hb1.lt
  have hwg : w.heap.size ∉ [g] := by simp; omega
  have HN := hide (number_w _ N g 2 l hl (by omega) HA.out)
  have HU := hide hu
  clear h hb hu
  by_cases h2 : l.length < 2
  · have HV := hide (show (textV l).1 = 4 by unfold textV; rw [if_pos h2])
    unfold NumPostW at HN
    simp only [if_pos h2] at HN
    clear h2
    go_enter Tryd.func77, Tryd.ntmps77
    go_wp2_with (go_at_call 94; refine HN.out.mono ?_; rintro e w1 ⟨rfl, rfl⟩)
    go_ret
    exact field_no HV.out (by decide) (HAL.out.mono (by simp))
  · obtain ⟨n, hn⟩ : ∃ n, n = lowV (l.take 2) := ⟨_, rfl⟩
    obtain ⟨q, hq⟩ : ∃ q, q = l.drop 2 := ⟨_, rfl⟩
    have hn6 : n < 65536 := by have h := lowV_lt (l.take 2); rw [List.length_take, Nat.min_eq_left (by omega)] at h; omega
    have hql : q.length ≤ 1099511627776 := by rw [hq, List.length_drop]; omega
    have HTV := hide (show textV l = if q.length < n then (4, ByteArray.empty, []) else if fitW ⟨(q.take n).toArray⟩ = true then (0, ⟨(q.take n).toArray⟩, q.drop n) else (3, ByteArray.empty, []) by unfold textV; rw [if_neg h2, ← hn, ← hq])
    unfold NumPostW at HN
    simp only [if_neg h2] at HN
    rw [← hn, ← hq] at HN
    have HT := hide (fun W (h : RdrAt W N g q) => take_w W N g n q hql (by omega) h)
    have hwn : IntKind.i64.wrap (n : Int) = n := by rw [IntKind.wrap_i64]; omega
    have HFT := hide (fun W => fit_any W ⟨(q.take n).toArray⟩ (by rw [size_toArray_, List.length_take]; unfold maxLen; omega))
    unfold RetB at HFT
    clear h2 hn hq hn6 hql
    by_cases h3 : q.length < n
    · have HV := hide (show (textV l).1 = 4 by rw [HTV.out, if_pos h3])
      unfold TakePostW at HT
      simp only [if_pos h3] at HT
      clear h3
      go_enter Tryd.func77, Tryd.ntmps77
      go_wp2_with (first
        | (go_at_call 94; refine HN.out.mono ?_; rintro e w1 ⟨rfl, ha, ho⟩; have HA := hide ha; have HO := hide (HAL.out.mono (S' := [g]) (by simp) |>.trans ho); have HF := hide (HF.out.only ho hwg); clear ha ho; have f0 := HF.out.cell 0; have f3 := HF.out.cell 3; simp at f0 f3)
        | (go_at_call 109; refine (HT.out _ HA.out).mono ?_; rintro e w2 ⟨rfl, rfl⟩))
      go_ret
      exact field_no HV.out (by decide) (HO.out.mono (by simp))
    · unfold TakePostW at HT
      simp only [if_neg h3] at HT
      rcases Bool.eq_false_or_eq_true (fitW ⟨(q.take n).toArray⟩) with hf | hf
      · have HV := hide (show ((textV l).1, Value.string (textV l).2.1, (textV l).2.2) = (0, Value.string ⟨(q.take n).toArray⟩, q.drop n) by rw [HTV.out, if_neg h3, if_pos hf])
        rw [hf] at HFT
        clear h3 hf
        go_enter Tryd.func77, Tryd.ntmps77
        go_wp2_with (first
          | (go_at_call 94; refine HN.out.mono ?_; rintro e w1 ⟨rfl, ha, ho⟩; have HA := hide ha; have HO := hide (HAL.out.mono (S' := [g]) (by simp) |>.trans ho); have HF := hide (HF.out.only ho hwg); have HMB := hide (HMB.out.only ho (by simpa using Ne.symm hgM)); clear ha ho; have f0 := HF.out.cell 0; have f3 := HF.out.cell 3; simp at f0 f3)
          | (go_at_call 109; refine (HT.out _ HA.out).mono ?_; rintro e w2 ⟨G, O, cap, rfl, hr, ha, ho⟩; have hcv := rd_string (P := Tryd.prog) hr 23 9 5 Tryd.underlying23 Tryd.underlying5 Tryd.underlying9; have HA := hide ha; have HO := hide (HO.out.trans ho); have HF := hide (HF.out.only ho hwg); have HMB := hide (HMB.out.only ho (by simpa using Ne.symm hgM)); clear ha ho hr; have f0 := HF.out.cell 0; have f3 := HF.out.cell 3; simp at f0 f3)
          | (go_at_call 110; refine (HFT.out _).mono ?_; rintro e w3 ⟨rfl, ho⟩; have HA := hide (HA.out.only ho (by simp) (by simp)); have HO := hide (HO.out.trans (ho.mono (by simp))); have HF := hide (HF.out.only ho (by simp)); have HMB := hide (HMB.out.only ho (by simp)); clear ho; have f0 := HF.out.cell 0; have f3 := HF.out.cell 3; simp at f0 f3; have m0 := (HMB.out.cell 9).trans HU.out; have mf := HMB.out.frozen 9)
          | (go_at_call 105; refine (place9 M _).mono ?_; rintro e w4 ⟨rfl, rfl⟩))
        go_ret
        exact field_yes HV.out HO.out HA.out hM hgM HM0.out
      · have HV := hide (show (textV l).1 = 3 by rw [HTV.out, if_neg h3, if_neg (by rw [hf]; decide)])
        rw [hf] at HFT
        clear h3 hf
        go_enter Tryd.func77, Tryd.ntmps77
        go_wp2_with (first
          | (go_at_call 94; refine HN.out.mono ?_; rintro e w1 ⟨rfl, ha, ho⟩; have HA := hide ha; have HO := hide (HAL.out.mono (S' := [g]) (by simp) |>.trans ho); have HF := hide (HF.out.only ho hwg); clear ha ho; have f0 := HF.out.cell 0; have f3 := HF.out.cell 3; simp at f0 f3)
          | (go_at_call 109; refine (HT.out _ HA.out).mono ?_; rintro e w2 ⟨G, O, cap, rfl, hr, ha, ho⟩; have hcv := rd_string (P := Tryd.prog) hr 23 9 5 Tryd.underlying23 Tryd.underlying5 Tryd.underlying9; have HA := hide ha; have HO := hide (HO.out.trans ho); have HF := hide (HF.out.only ho hwg); clear ha ho hr; have f0 := HF.out.cell 0; have f3 := HF.out.cell 3; simp at f0 f3)
          | (go_at_call 110; refine (HFT.out _).mono ?_; rintro e w3 ⟨rfl, ho⟩; have HO := hide (HO.out.trans (ho.mono (by simp))); clear ho))
        go_ret
        exact field_no HV.out (by decide) (HO.out.mono (by simp))

set_option maxRecDepth 100000 in
set_option maxHeartbeats 6400000 in
theorem field_10 (w : World) (N : List Nat) (g M : Nat) (l : List UInt8) (hl : l.length ≤ 1099511627776) (cs : Array Value) {u : Value} (hu : cs[10]? = some u) (h : RdrAt w N g l) (hM : M ∈ N) (hgM : g ≠ M) (hb : Blk w M 78 cs) :
    Calls Tryd.prog 77 #[.pointer (some ⟨g, 0, none⟩), .agg #[.int .i64 0, .nilFunc, .nilFunc, .func (.func 108) #[] #[]], .pointer (some ⟨M, 0, none⟩)] w (FieldPost N g M 10 cs ((textV l).1, .string (textV l).2.1, (textV l).2.2) w) := by
  have hst := fun (W : World) (a : Addr) (fn : Fn) (c : Array Value) => (run_store Tryd.prog W a (.func fn #[] c) .plain rfl : (store a (.func fn #[] c)).run Tryd.prog W = stored Tryd.prog W a (.func fn #[] c) .plain)
  have hsn := fun (W : World) (a : Addr) => (run_store Tryd.prog W a .nilFunc .plain rfl : (store a .nilFunc).run Tryd.prog W = stored Tryd.prog W a .nilFunc .plain)
  have HAL := hide (show Only [] w (w.alloc (.cells #[.int .i64 0, .nilFunc, .nilFunc, .func (.func 108) #[] #[]] 126)) from (Only.refl [] w).alloc _)
  have HF := hide (Blk.new w 126 #[.int .i64 0, .nilFunc, .nilFunc, .func (.func 108) #[] #[]])
  have HA := hide (h.only HAL.out (by simp) (by simp))
  have HMB := hide (hb.only HAL.out (by simp))
  have HM0 := hide hb
  have hglt : g < w.heap.size := by obtain ⟨_, _, _, hb1, _⟩ := h; exact hb1.lt
  have hwg : w.heap.size ∉ [g] := by simp; omega
  have HN := hide (number_w _ N g 2 l hl (by omega) HA.out)
  have HU := hide hu
  clear h hb hu
  by_cases h2 : l.length < 2
  · have HV := hide (show (textV l).1 = 4 by unfold textV; rw [if_pos h2])
    unfold NumPostW at HN
    simp only [if_pos h2] at HN
    clear h2
    go_enter Tryd.func77, Tryd.ntmps77
    go_wp2_with (go_at_call 94; refine HN.out.mono ?_; rintro e w1 ⟨rfl, rfl⟩)
    go_ret
    exact field_no HV.out (by decide) (HAL.out.mono (by simp))
  · obtain ⟨n, hn⟩ : ∃ n, n = lowV (l.take 2) := ⟨_, rfl⟩
    obtain ⟨q, hq⟩ : ∃ q, q = l.drop 2 := ⟨_, rfl⟩
    have hn6 : n < 65536 := by have h := lowV_lt (l.take 2); rw [List.length_take, Nat.min_eq_left (by omega)] at h; omega
    have hql : q.length ≤ 1099511627776 := by rw [hq, List.length_drop]; omega
    have HTV := hide (show textV l = if q.length < n then (4, ByteArray.empty, []) else if fitW ⟨(q.take n).toArray⟩ = true then (0, ⟨(q.take n).toArray⟩, q.drop n) else (3, ByteArray.empty, []) by unfold textV; rw [if_neg h2, ← hn, ← hq])
    unfold NumPostW at HN
    simp only [if_neg h2] at HN
    rw [← hn, ← hq] at HN
    have HT := hide (fun W (h : RdrAt W N g q) => take_w W N g n q hql (by omega) h)
    have hwn : IntKind.i64.wrap (n : Int) = n := by rw [IntKind.wrap_i64]; omega
    have HFT := hide (fun W => fit_any W ⟨(q.take n).toArray⟩ (by rw [size_toArray_, List.length_take]; unfold maxLen; omega))
    unfold RetB at HFT
    clear h2 hn hq hn6 hql
    by_cases h3 : q.length < n
    · have HV := hide (show (textV l).1 = 4 by rw [HTV.out, if_pos h3])
      unfold TakePostW at HT
      simp only [if_pos h3] at HT
      clear h3
      go_enter Tryd.func77, Tryd.ntmps77
      go_wp2_with (first
        | (go_at_call 94; refine HN.out.mono ?_; rintro e w1 ⟨rfl, ha, ho⟩; have HA := hide ha; have HO := hide (HAL.out.mono (S' := [g]) (by simp) |>.trans ho); have HF := hide (HF.out.only ho hwg); clear ha ho; have f0 := HF.out.cell 0; have f3 := HF.out.cell 3; simp at f0 f3)
        | (go_at_call 109; refine (HT.out _ HA.out).mono ?_; rintro e w2 ⟨rfl, rfl⟩))
      go_ret
      exact field_no HV.out (by decide) (HO.out.mono (by simp))
    · unfold TakePostW at HT
      simp only [if_neg h3] at HT
      rcases Bool.eq_false_or_eq_true (fitW ⟨(q.take n).toArray⟩) with hf | hf
      · have HV := hide (show ((textV l).1, Value.string (textV l).2.1, (textV l).2.2) = (0, Value.string ⟨(q.take n).toArray⟩, q.drop n) by rw [HTV.out, if_neg h3, if_pos hf])
        rw [hf] at HFT
        clear h3 hf
        go_enter Tryd.func77, Tryd.ntmps77
        go_wp2_with (first
          | (go_at_call 94; refine HN.out.mono ?_; rintro e w1 ⟨rfl, ha, ho⟩; have HA := hide ha; have HO := hide (HAL.out.mono (S' := [g]) (by simp) |>.trans ho); have HF := hide (HF.out.only ho hwg); have HMB := hide (HMB.out.only ho (by simpa using Ne.symm hgM)); clear ha ho; have f0 := HF.out.cell 0; have f3 := HF.out.cell 3; simp at f0 f3)
          | (go_at_call 109; refine (HT.out _ HA.out).mono ?_; rintro e w2 ⟨G, O, cap, rfl, hr, ha, ho⟩; have hcv := rd_string (P := Tryd.prog) hr 23 9 5 Tryd.underlying23 Tryd.underlying5 Tryd.underlying9; have HA := hide ha; have HO := hide (HO.out.trans ho); have HF := hide (HF.out.only ho hwg); have HMB := hide (HMB.out.only ho (by simpa using Ne.symm hgM)); clear ha ho hr; have f0 := HF.out.cell 0; have f3 := HF.out.cell 3; simp at f0 f3)
          | (go_at_call 110; refine (HFT.out _).mono ?_; rintro e w3 ⟨rfl, ho⟩; have HA := hide (HA.out.only ho (by simp) (by simp)); have HO := hide (HO.out.trans (ho.mono (by simp))); have HF := hide (HF.out.only ho (by simp)); have HMB := hide (HMB.out.only ho (by simp)); clear ho; have f0 := HF.out.cell 0; have f3 := HF.out.cell 3; simp at f0 f3; have m0 := (HMB.out.cell 10).trans HU.out; have mf := HMB.out.frozen 10)
          | (go_at_call 108; refine (place10 M _).mono ?_; rintro e w4 ⟨rfl, rfl⟩))
        go_ret
        exact field_yes HV.out HO.out HA.out hM hgM HM0.out
      · have HV := hide (show (textV l).1 = 3 by rw [HTV.out, if_neg h3, if_neg (by rw [hf]; decide)])
        rw [hf] at HFT
        clear h3 hf
        go_enter Tryd.func77, Tryd.ntmps77
        go_wp2_with (first
          | (go_at_call 94; refine HN.out.mono ?_; rintro e w1 ⟨rfl, ha, ho⟩; have HA := hide ha; have HO := hide (HAL.out.mono (S' := [g]) (by simp) |>.trans ho); have HF := hide (HF.out.only ho hwg); clear ha ho; have f0 := HF.out.cell 0; have f3 := HF.out.cell 3; simp at f0 f3)
          | (go_at_call 109; refine (HT.out _ HA.out).mono ?_; rintro e w2 ⟨G, O, cap, rfl, hr, ha, ho⟩; have hcv := rd_string (P := Tryd.prog) hr 23 9 5 Tryd.underlying23 Tryd.underlying5 Tryd.underlying9; have HA := hide ha; have HO := hide (HO.out.trans ho); have HF := hide (HF.out.only ho hwg); clear ha ho hr; have f0 := HF.out.cell 0; have f3 := HF.out.cell 3; simp at f0 f3)
          | (go_at_call 110; refine (HFT.out _).mono ?_; rintro e w3 ⟨rfl, ho⟩; have HO := hide (HO.out.trans (ho.mono (by simp))); clear ho))
        go_ret
        exact field_no HV.out (by decide) (HO.out.mono (by simp))

set_option maxRecDepth 100000 in
set_option maxHeartbeats 6400000 in
theorem field_11 (w : World) (N : List Nat) (g M : Nat) (l : List UInt8) (hl : l.length ≤ 1099511627776) (cs : Array Value) {u : Value} (hu : cs[11]? = some u) (h : RdrAt w N g l) (hM : M ∈ N) (hgM : g ≠ M) (hb : Blk w M 78 cs) :
    Calls Tryd.prog 77 #[.pointer (some ⟨g, 0, none⟩), .agg #[.int .i64 0, .nilFunc, .nilFunc, .func (.func 99) #[] #[]], .pointer (some ⟨M, 0, none⟩)] w (FieldPost N g M 11 cs ((textV l).1, .string (textV l).2.1, (textV l).2.2) w) := by
  have hst := fun (W : World) (a : Addr) (fn : Fn) (c : Array Value) => (run_store Tryd.prog W a (.func fn #[] c) .plain rfl : (store a (.func fn #[] c)).run Tryd.prog W = stored Tryd.prog W a (.func fn #[] c) .plain)
  have hsn := fun (W : World) (a : Addr) => (run_store Tryd.prog W a .nilFunc .plain rfl : (store a .nilFunc).run Tryd.prog W = stored Tryd.prog W a .nilFunc .plain)
  have HAL := hide (show Only [] w (w.alloc (.cells #[.int .i64 0, .nilFunc, .nilFunc, .func (.func 99) #[] #[]] 126)) from (Only.refl [] w).alloc _)
  have HF := hide (Blk.new w 126 #[.int .i64 0, .nilFunc, .nilFunc, .func (.func 99) #[] #[]])
  have HA := hide (h.only HAL.out (by simp) (by simp))
  have HMB := hide (hb.only HAL.out (by simp))
  have HM0 := hide hb
  have hglt : g < w.heap.size := by obtain ⟨_, _, _, hb1, _⟩ := h; exact hb1.lt
  have hwg : w.heap.size ∉ [g] := by simp; omega
  have HN := hide (number_w _ N g 2 l hl (by omega) HA.out)
  have HU := hide hu
  clear h hb hu
  by_cases h2 : l.length < 2
  · have HV := hide (show (textV l).1 = 4 by unfold textV; rw [if_pos h2])
    unfold NumPostW at HN
    simp only [if_pos h2] at HN
    clear h2
    go_enter Tryd.func77, Tryd.ntmps77
    go_wp2_with (go_at_call 94; refine HN.out.mono ?_; rintro e w1 ⟨rfl, rfl⟩)
    go_ret
    exact field_no HV.out (by decide) (HAL.out.mono (by simp))
  · obtain ⟨n, hn⟩ : ∃ n, n = lowV (l.take 2) := ⟨_, rfl⟩
    obtain ⟨q, hq⟩ : ∃ q, q = l.drop 2 := ⟨_, rfl⟩
    have hn6 : n < 65536 := by have h := lowV_lt (l.take 2); rw [List.length_take, Nat.min_eq_left (by omega)] at h; omega
    have hql : q.length ≤ 1099511627776 := by rw [hq, List.length_drop]; omega
    have HTV := hide (show textV l = if q.length < n then (4, ByteArray.empty, []) else if fitW ⟨(q.take n).toArray⟩ = true then (0, ⟨(q.take n).toArray⟩, q.drop n) else (3, ByteArray.empty, []) by unfold textV; rw [if_neg h2, ← hn, ← hq])
    unfold NumPostW at HN
    simp only [if_neg h2] at HN
    rw [← hn, ← hq] at HN
    have HT := hide (fun W (h : RdrAt W N g q) => take_w W N g n q hql (by omega) h)
    have hwn : IntKind.i64.wrap (n : Int) = n := by rw [IntKind.wrap_i64]; omega
    have HFT := hide (fun W => fit_any W ⟨(q.take n).toArray⟩ (by rw [size_toArray_, List.length_take]; unfold maxLen; omega))
    unfold RetB at HFT
    clear h2 hn hq hn6 hql
    by_cases h3 : q.length < n
    · have HV := hide (show (textV l).1 = 4 by rw [HTV.out, if_pos h3])
      unfold TakePostW at HT
      simp only [if_pos h3] at HT
      clear h3
      go_enter Tryd.func77, Tryd.ntmps77
      go_wp2_with (first
        | (go_at_call 94; refine HN.out.mono ?_; rintro e w1 ⟨rfl, ha, ho⟩; have HA := hide ha; have HO := hide (HAL.out.mono (S' := [g]) (by simp) |>.trans ho); have HF := hide (HF.out.only ho hwg); clear ha ho; have f0 := HF.out.cell 0; have f3 := HF.out.cell 3; simp at f0 f3)
        | (go_at_call 109; refine (HT.out _ HA.out).mono ?_; rintro e w2 ⟨rfl, rfl⟩))
      go_ret
      exact field_no HV.out (by decide) (HO.out.mono (by simp))
    · unfold TakePostW at HT
      simp only [if_neg h3] at HT
      rcases Bool.eq_false_or_eq_true (fitW ⟨(q.take n).toArray⟩) with hf | hf
      · have HV := hide (show ((textV l).1, Value.string (textV l).2.1, (textV l).2.2) = (0, Value.string ⟨(q.take n).toArray⟩, q.drop n) by rw [HTV.out, if_neg h3, if_pos hf])
        rw [hf] at HFT
        clear h3 hf
        go_enter Tryd.func77, Tryd.ntmps77
        go_wp2_with (first
          | (go_at_call 94; refine HN.out.mono ?_; rintro e w1 ⟨rfl, ha, ho⟩; have HA := hide ha; have HO := hide (HAL.out.mono (S' := [g]) (by simp) |>.trans ho); have HF := hide (HF.out.only ho hwg); have HMB := hide (HMB.out.only ho (by simpa using Ne.symm hgM)); clear ha ho; have f0 := HF.out.cell 0; have f3 := HF.out.cell 3; simp at f0 f3)
          | (go_at_call 109; refine (HT.out _ HA.out).mono ?_; rintro e w2 ⟨G, O, cap, rfl, hr, ha, ho⟩; have hcv := rd_string (P := Tryd.prog) hr 23 9 5 Tryd.underlying23 Tryd.underlying5 Tryd.underlying9; have HA := hide ha; have HO := hide (HO.out.trans ho); have HF := hide (HF.out.only ho hwg); have HMB := hide (HMB.out.only ho (by simpa using Ne.symm hgM)); clear ha ho hr; have f0 := HF.out.cell 0; have f3 := HF.out.cell 3; simp at f0 f3)
          | (go_at_call 110; refine (HFT.out _).mono ?_; rintro e w3 ⟨rfl, ho⟩; have HA := hide (HA.out.only ho (by simp) (by simp)); have HO := hide (HO.out.trans (ho.mono (by simp))); have HF := hide (HF.out.only ho (by simp)); have HMB := hide (HMB.out.only ho (by simp)); clear ho; have f0 := HF.out.cell 0; have f3 := HF.out.cell 3; simp at f0 f3; have m0 := (HMB.out.cell 11).trans HU.out; have mf := HMB.out.frozen 11)
          | (go_at_call 99; refine (place11 M _).mono ?_; rintro e w4 ⟨rfl, rfl⟩))
        go_ret
        exact field_yes HV.out HO.out HA.out hM hgM HM0.out
      · have HV := hide (show (textV l).1 = 3 by rw [HTV.out, if_neg h3, if_neg (by rw [hf]; decide)])
        rw [hf] at HFT
        clear h3 hf
        go_enter Tryd.func77, Tryd.ntmps77
        go_wp2_with (first
          | (go_at_call 94; refine HN.out.mono ?_; rintro e w1 ⟨rfl, ha, ho⟩; have HA := hide ha; have HO := hide (HAL.out.mono (S' := [g]) (by simp) |>.trans ho); have HF := hide (HF.out.only ho hwg); clear ha ho; have f0 := HF.out.cell 0; have f3 := HF.out.cell 3; simp at f0 f3)
          | (go_at_call 109; refine (HT.out _ HA.out).mono ?_; rintro e w2 ⟨G, O, cap, rfl, hr, ha, ho⟩; have hcv := rd_string (P := Tryd.prog) hr 23 9 5 Tryd.underlying23 Tryd.underlying5 Tryd.underlying9; have HA := hide ha; have HO := hide (HO.out.trans ho); have HF := hide (HF.out.only ho hwg); clear ha ho hr; have f0 := HF.out.cell 0; have f3 := HF.out.cell 3; simp at f0 f3)
          | (go_at_call 110; refine (HFT.out _).mono ?_; rintro e w3 ⟨rfl, ho⟩; have HO := hide (HO.out.trans (ho.mono (by simp))); clear ho))
        go_ret
        exact field_no HV.out (by decide) (HO.out.mono (by simp))

set_option maxRecDepth 100000 in
set_option maxHeartbeats 6400000 in
theorem field_12 (w : World) (N : List Nat) (g M : Nat) (l : List UInt8) (hl : l.length ≤ 1099511627776) (cs : Array Value) {u : Value} (hu : cs[12]? = some u) (h : RdrAt w N g l) (hM : M ∈ N) (hgM : g ≠ M) (hb : Blk w M 78 cs) :
    Calls Tryd.prog 77 #[.pointer (some ⟨g, 0, none⟩), .agg #[.int .i64 0, .nilFunc, .nilFunc, .func (.func 100) #[] #[]], .pointer (some ⟨M, 0, none⟩)] w (FieldPost N g M 12 cs ((textV l).1, .string (textV l).2.1, (textV l).2.2) w) := by
  have hst := fun (W : World) (a : Addr) (fn : Fn) (c : Array Value) => (run_store Tryd.prog W a (.func fn #[] c) .plain rfl : (store a (.func fn #[] c)).run Tryd.prog W = stored Tryd.prog W a (.func fn #[] c) .plain)
  have hsn := fun (W : World) (a : Addr) => (run_store Tryd.prog W a .nilFunc .plain rfl : (store a .nilFunc).run Tryd.prog W = stored Tryd.prog W a .nilFunc .plain)
  have HAL := hide (show Only [] w (w.alloc (.cells #[.int .i64 0, .nilFunc, .nilFunc, .func (.func 100) #[] #[]] 126)) from (Only.refl [] w).alloc _)
  have HF := hide (Blk.new w 126 #[.int .i64 0, .nilFunc, .nilFunc, .func (.func 100) #[] #[]])
  have HA := hide (h.only HAL.out (by simp) (by simp))
  have HMB := hide (hb.only HAL.out (by simp))
  have HM0 := hide hb
  have hglt : g < w.heap.size := by obtain ⟨_, _, _, hb1, _⟩ := h; exact hb1.lt
  have hwg : w.heap.size ∉ [g] := by simp; omega
  have HN := hide (number_w _ N g 2 l hl (by omega) HA.out)
  have HU := hide hu
  clear h hb hu
  by_cases h2 : l.length < 2
  · have HV := hide (show (textV l).1 = 4 by unfold textV; rw [if_pos h2])
    unfold NumPostW at HN
    simp only [if_pos h2] at HN
    clear h2
    go_enter Tryd.func77, Tryd.ntmps77
    go_wp2_with (go_at_call 94; refine HN.out.mono ?_; rintro e w1 ⟨rfl, rfl⟩)
    go_ret
    exact field_no HV.out (by decide) (HAL.out.mono (by simp))
  · obtain ⟨n, hn⟩ : ∃ n, n = lowV (l.take 2) := ⟨_, rfl⟩
    obtain ⟨q, hq⟩ : ∃ q, q = l.drop 2 := ⟨_, rfl⟩
    have hn6 : n < 65536 := by have h := lowV_lt (l.take 2); rw [List.length_take, Nat.min_eq_left (by omega)] at h; omega
    have hql : q.length ≤ 1099511627776 := by rw [hq, List.length_drop]; omega
    have HTV := hide (show textV l = if q.length < n then (4, ByteArray.empty, []) else if fitW ⟨(q.take n).toArray⟩ = true then (0, ⟨(q.take n).toArray⟩, q.drop n) else (3, ByteArray.empty, []) by unfold textV; rw [if_neg h2, ← hn, ← hq])
    unfold NumPostW at HN
    simp only [if_neg h2] at HN
    rw [← hn, ← hq] at HN
    have HT := hide (fun W (h : RdrAt W N g q) => take_w W N g n q hql (by omega) h)
    have hwn : IntKind.i64.wrap (n : Int) = n := by rw [IntKind.wrap_i64]; omega
    have HFT := hide (fun W => fit_any W ⟨(q.take n).toArray⟩ (by rw [size_toArray_, List.length_take]; unfold maxLen; omega))
    unfold RetB at HFT
    clear h2 hn hq hn6 hql
    by_cases h3 : q.length < n
    · have HV := hide (show (textV l).1 = 4 by rw [HTV.out, if_pos h3])
      unfold TakePostW at HT
      simp only [if_pos h3] at HT
      clear h3
      go_enter Tryd.func77, Tryd.ntmps77
      go_wp2_with (first
        | (go_at_call 94; refine HN.out.mono ?_; rintro e w1 ⟨rfl, ha, ho⟩; have HA := hide ha; have HO := hide (HAL.out.mono (S' := [g]) (by simp) |>.trans ho); have HF := hide (HF.out.only ho hwg); clear ha ho; have f0 := HF.out.cell 0; have f3 := HF.out.cell 3; simp at f0 f3)
        | (go_at_call 109; refine (HT.out _ HA.out).mono ?_; rintro e w2 ⟨rfl, rfl⟩))
      go_ret
      exact field_no HV.out (by decide) (HO.out.mono (by simp))
    · unfold TakePostW at HT
      simp only [if_neg h3] at HT
      rcases Bool.eq_false_or_eq_true (fitW ⟨(q.take n).toArray⟩) with hf | hf
      · have HV := hide (show ((textV l).1, Value.string (textV l).2.1, (textV l).2.2) = (0, Value.string ⟨(q.take n).toArray⟩, q.drop n) by rw [HTV.out, if_neg h3, if_pos hf])
        rw [hf] at HFT
        clear h3 hf
        go_enter Tryd.func77, Tryd.ntmps77
        go_wp2_with (first
          | (go_at_call 94; refine HN.out.mono ?_; rintro e w1 ⟨rfl, ha, ho⟩; have HA := hide ha; have HO := hide (HAL.out.mono (S' := [g]) (by simp) |>.trans ho); have HF := hide (HF.out.only ho hwg); have HMB := hide (HMB.out.only ho (by simpa using Ne.symm hgM)); clear ha ho; have f0 := HF.out.cell 0; have f3 := HF.out.cell 3; simp at f0 f3)
          | (go_at_call 109; refine (HT.out _ HA.out).mono ?_; rintro e w2 ⟨G, O, cap, rfl, hr, ha, ho⟩; have hcv := rd_string (P := Tryd.prog) hr 23 9 5 Tryd.underlying23 Tryd.underlying5 Tryd.underlying9; have HA := hide ha; have HO := hide (HO.out.trans ho); have HF := hide (HF.out.only ho hwg); have HMB := hide (HMB.out.only ho (by simpa using Ne.symm hgM)); clear ha ho hr; have f0 := HF.out.cell 0; have f3 := HF.out.cell 3; simp at f0 f3)
          | (go_at_call 110; refine (HFT.out _).mono ?_; rintro e w3 ⟨rfl, ho⟩; have HA := hide (HA.out.only ho (by simp) (by simp)); have HO := hide (HO.out.trans (ho.mono (by simp))); have HF := hide (HF.out.only ho (by simp)); have HMB := hide (HMB.out.only ho (by simp)); clear ho; have f0 := HF.out.cell 0; have f3 := HF.out.cell 3; simp at f0 f3; have m0 := (HMB.out.cell 12).trans HU.out; have mf := HMB.out.frozen 12)
          | (go_at_call 100; refine (place12 M _).mono ?_; rintro e w4 ⟨rfl, rfl⟩))
        go_ret
        exact field_yes HV.out HO.out HA.out hM hgM HM0.out
      · have HV := hide (show (textV l).1 = 3 by rw [HTV.out, if_neg h3, if_neg (by rw [hf]; decide)])
        rw [hf] at HFT
        clear h3 hf
        go_enter Tryd.func77, Tryd.ntmps77
        go_wp2_with (first
          | (go_at_call 94; refine HN.out.mono ?_; rintro e w1 ⟨rfl, ha, ho⟩; have HA := hide ha; have HO := hide (HAL.out.mono (S' := [g]) (by simp) |>.trans ho); have HF := hide (HF.out.only ho hwg); clear ha ho; have f0 := HF.out.cell 0; have f3 := HF.out.cell 3; simp at f0 f3)
          | (go_at_call 109; refine (HT.out _ HA.out).mono ?_; rintro e w2 ⟨G, O, cap, rfl, hr, ha, ho⟩; have hcv := rd_string (P := Tryd.prog) hr 23 9 5 Tryd.underlying23 Tryd.underlying5 Tryd.underlying9; have HA := hide ha; have HO := hide (HO.out.trans ho); have HF := hide (HF.out.only ho hwg); clear ha ho hr; have f0 := HF.out.cell 0; have f3 := HF.out.cell 3; simp at f0 f3)
          | (go_at_call 110; refine (HFT.out _).mono ?_; rintro e w3 ⟨rfl, ho⟩; have HO := hide (HO.out.trans (ho.mono (by simp))); clear ho))
        go_ret
        exact field_no HV.out (by decide) (HO.out.mono (by simp))

/-- A number of so many bytes, read: the code, the number, what is left. -/
def numV (k : Nat) (l : List UInt8) : Int × Nat × List UInt8 := if l.length < k then (4, 0, []) else (0, lowV (l.take k), l.drop k)

set_option maxRecDepth 100000 in
set_option maxHeartbeats 6400000 in
theorem field_s (w : World) (N : List Nat) (g M b : Nat) (l : List UInt8) (hl : l.length ≤ 1099511627776) (cs : Array Value) {y : Nat} (hu : cs[1]? = some (.int .u32 y)) (h : RdrAt w N g l) (hM : M ∈ N) (hgM : g ≠ M) (hb : Blk w M 78 cs) (hbx : Blk w b 151 #[fnV 96]) (hbg : b ≠ g) :
    Calls Tryd.prog 77 #[.pointer (some ⟨g, 0, none⟩), .agg #[.int .i64 4, .func (.func 121) #[] #[.pointer (some ⟨b, 0, none⟩)], .func (.func 122) #[] #[.pointer (some ⟨b, 0, none⟩)], .nilFunc], .pointer (some ⟨M, 0, none⟩)] w (FieldPost N g M 1 cs ((numV 4 l).1, .int .u32 ((numV 4 l).2.1 : Nat), (numV 4 l).2.2) w) := by
  have hst := fun (W : World) (a : Addr) (fn : Fn) (c : Array Value) => (run_store Tryd.prog W a (.func fn #[] c) .plain rfl : (store a (.func fn #[] c)).run Tryd.prog W = stored Tryd.prog W a (.func fn #[] c) .plain)
  have hsn := fun (W : World) (a : Addr) => (run_store Tryd.prog W a .nilFunc .plain rfl : (store a .nilFunc).run Tryd.prog W = stored Tryd.prog W a .nilFunc .plain)
  have HAL := hide (show Only [] w (w.alloc (.cells #[.int .i64 4, .func (.func 121) #[] #[.pointer (some ⟨b, 0, none⟩)], .func (.func 122) #[] #[.pointer (some ⟨b, 0, none⟩)], .nilFunc] 126)) from (Only.refl [] w).alloc _)
  have HF := hide (Blk.new w 126 #[.int .i64 4, .func (.func 121) #[] #[.pointer (some ⟨b, 0, none⟩)], .func (.func 122) #[] #[.pointer (some ⟨b, 0, none⟩)], .nilFunc])
  have HA := hide (h.only HAL.out (by simp) (by simp))
  have HM0 := hide hb
  have HMB := hide (hb.only HAL.out (by simp))
  have hglt : g < w.heap.size := by obtain ⟨_, _, _, hb1, _⟩ := h; exact hb1.lt
  have hwg : w.heap.size ∉ [g] := by simp; omega
  have HN := hide (number_w _ N g 4 l hl (by omega) HA.out)
  have HU := hide hu
  have HBX := hide (hbx.only HAL.out (by simp))
  clear hbx
  clear h hb hu
  by_cases h2 : l.length < 4
  · have HV := hide (show (numV 4 l).1 = 4 by unfold numV; rw [if_pos h2])
    unfold NumPostW at HN
    simp only [if_pos h2] at HN
    clear h2
    go_enter Tryd.func77, Tryd.ntmps77
    go_wp2_with (go_at_call 94; refine HN.out.mono ?_; rintro e w1 ⟨rfl, rfl⟩)
    go_ret
    exact field_no HV.out (by decide) (HAL.out.mono (by simp))
  · unfold NumPostW at HN
    simp only [if_neg h2] at HN
    obtain ⟨x, hxx⟩ : ∃ x, x = lowV (l.take 4) := ⟨_, rfl⟩
    have HV := hide (show ((numV 4 l).1, Value.int .u32 ((numV 4 l).2.1 : Nat), (numV 4 l).2.2) = (0, Value.int .u32 (x : Nat), l.drop 4) by unfold numV; rw [if_neg h2, ← hxx])
    have hx : x < 4294967296 := by have h := lowV_lt (l.take 4); rw [List.length_take, Nat.min_eq_left (by omega), ← hxx] at h; omega
    rw [← hxx] at HN
    clear h2 hxx
    go_enter Tryd.func77, Tryd.ntmps77
    go_wp2_with (first
      | (go_at_call 94; refine HN.out.mono ?_; rintro e w1 ⟨rfl, ha, ho⟩; have HA := hide ha; have HO := hide (HAL.out.mono (S' := [g]) (by simp) |>.trans ho); have HF := hide (HF.out.only ho hwg); have HMB := hide (HMB.out.only ho (by simpa using Ne.symm hgM)); have HBX := hide (HBX.out.only ho (by simpa using hbg)); have x0 := HBX.out.cell 0; simp at x0; clear ha ho; have f0 := HF.out.cell 0; have f2 := HF.out.cell 2; simp at f0 f2; have m0 := (HMB.out.cell 1).trans HU.out; have mf := HMB.out.frozen 1)
      | (go_at_call 122; refine (numset1 M b x _ x0 m0 mf hx).mono ?_; rintro e w4 ⟨rfl, rfl⟩))
    go_ret
    exact field_yes HV.out HO.out HA.out hM hgM HM0.out

set_option maxRecDepth 100000 in
set_option maxHeartbeats 6400000 in
theorem field_r (w : World) (N : List Nat) (g M b : Nat) (l : List UInt8) (hl : l.length ≤ 1099511627776) (cs : Array Value) {y : Nat} (hu : cs[2]? = some (.int .u32 y)) (h : RdrAt w N g l) (hM : M ∈ N) (hgM : g ≠ M) (hb : Blk w M 78 cs) (hbx : Blk w b 151 #[fnV 97]) (hbg : b ≠ g) :
    Calls Tryd.prog 77 #[.pointer (some ⟨g, 0, none⟩), .agg #[.int .i64 4, .func (.func 121) #[] #[.pointer (some ⟨b, 0, none⟩)], .func (.func 122) #[] #[.pointer (some ⟨b, 0, none⟩)], .nilFunc], .pointer (some ⟨M, 0, none⟩)] w (FieldPost N g M 2 cs ((numV 4 l).1, .int .u32 ((numV 4 l).2.1 : Nat), (numV 4 l).2.2) w) := by
  have hst := fun (W : World) (a : Addr) (fn : Fn) (c : Array Value) => (run_store Tryd.prog W a (.func fn #[] c) .plain rfl : (store a (.func fn #[] c)).run Tryd.prog W = stored Tryd.prog W a (.func fn #[] c) .plain)
  have hsn := fun (W : World) (a : Addr) => (run_store Tryd.prog W a .nilFunc .plain rfl : (store a .nilFunc).run Tryd.prog W = stored Tryd.prog W a .nilFunc .plain)
  have HAL := hide (show Only [] w (w.alloc (.cells #[.int .i64 4, .func (.func 121) #[] #[.pointer (some ⟨b, 0, none⟩)], .func (.func 122) #[] #[.pointer (some ⟨b, 0, none⟩)], .nilFunc] 126)) from (Only.refl [] w).alloc _)
  have HF := hide (Blk.new w 126 #[.int .i64 4, .func (.func 121) #[] #[.pointer (some ⟨b, 0, none⟩)], .func (.func 122) #[] #[.pointer (some ⟨b, 0, none⟩)], .nilFunc])
  have HA := hide (h.only HAL.out (by simp) (by simp))
  have HM0 := hide hb
  have HMB := hide (hb.only HAL.out (by simp))
  have hglt : g < w.heap.size := by obtain ⟨_, _, _, hb1, _⟩ := h; exact hb1.lt
  have hwg : w.heap.size ∉ [g] := by simp; omega
  have HN := hide (number_w _ N g 4 l hl (by omega) HA.out)
  have HU := hide hu
  have HBX := hide (hbx.only HAL.out (by simp))
  clear hbx
  clear h hb hu
  by_cases h2 : l.length < 4
  · have HV := hide (show (numV 4 l).1 = 4 by unfold numV; rw [if_pos h2])
    unfold NumPostW at HN
    simp only [if_pos h2] at HN
    clear h2
    go_enter Tryd.func77, Tryd.ntmps77
    go_wp2_with (go_at_call 94; refine HN.out.mono ?_; rintro e w1 ⟨rfl, rfl⟩)
    go_ret
    exact field_no HV.out (by decide) (HAL.out.mono (by simp))
  · unfold NumPostW at HN
    simp only [if_neg h2] at HN
    obtain ⟨x, hxx⟩ : ∃ x, x = lowV (l.take 4) := ⟨_, rfl⟩
    have HV := hide (show ((numV 4 l).1, Value.int .u32 ((numV 4 l).2.1 : Nat), (numV 4 l).2.2) = (0, Value.int .u32 (x : Nat), l.drop 4) by unfold numV; rw [if_neg h2, ← hxx])
    have hx : x < 4294967296 := by have h := lowV_lt (l.take 4); rw [List.length_take, Nat.min_eq_left (by omega), ← hxx] at h; omega
    rw [← hxx] at HN
    clear h2 hxx
    go_enter Tryd.func77, Tryd.ntmps77
    go_wp2_with (first
      | (go_at_call 94; refine HN.out.mono ?_; rintro e w1 ⟨rfl, ha, ho⟩; have HA := hide ha; have HO := hide (HAL.out.mono (S' := [g]) (by simp) |>.trans ho); have HF := hide (HF.out.only ho hwg); have HMB := hide (HMB.out.only ho (by simpa using Ne.symm hgM)); have HBX := hide (HBX.out.only ho (by simpa using hbg)); have x0 := HBX.out.cell 0; simp at x0; clear ha ho; have f0 := HF.out.cell 0; have f2 := HF.out.cell 2; simp at f0 f2; have m0 := (HMB.out.cell 2).trans HU.out; have mf := HMB.out.frozen 2)
      | (go_at_call 122; refine (numset2 M b x _ x0 m0 mf hx).mono ?_; rintro e w4 ⟨rfl, rfl⟩))
    go_ret
    exact field_yes HV.out HO.out HA.out hM hgM HM0.out

set_option maxRecDepth 100000 in
set_option maxHeartbeats 6400000 in
theorem field_c (w : World) (N : List Nat) (g M : Nat) (l : List UInt8) (hl : l.length ≤ 1099511627776) (cs : Array Value) {y : Nat} (hu : cs[3]? = some (.int .u64 y)) (h : RdrAt w N g l) (hM : M ∈ N) (hgM : g ≠ M) (hb : Blk w M 78 cs) :
    Calls Tryd.prog 77 #[.pointer (some ⟨g, 0, none⟩), .agg #[.int .i64 8, .func (.func 106) #[] #[], .func (.func 107) #[] #[], .nilFunc], .pointer (some ⟨M, 0, none⟩)] w (FieldPost N g M 3 cs ((numV 8 l).1, .int .u64 ((numV 8 l).2.1 : Nat), (numV 8 l).2.2) w) := by
  have hst := fun (W : World) (a : Addr) (fn : Fn) (c : Array Value) => (run_store Tryd.prog W a (.func fn #[] c) .plain rfl : (store a (.func fn #[] c)).run Tryd.prog W = stored Tryd.prog W a (.func fn #[] c) .plain)
  have hsn := fun (W : World) (a : Addr) => (run_store Tryd.prog W a .nilFunc .plain rfl : (store a .nilFunc).run Tryd.prog W = stored Tryd.prog W a .nilFunc .plain)
  have HAL := hide (show Only [] w (w.alloc (.cells #[.int .i64 8, .func (.func 106) #[] #[], .func (.func 107) #[] #[], .nilFunc] 126)) from (Only.refl [] w).alloc _)
  have HF := hide (Blk.new w 126 #[.int .i64 8, .func (.func 106) #[] #[], .func (.func 107) #[] #[], .nilFunc])
  have HA := hide (h.only HAL.out (by simp) (by simp))
  have HM0 := hide hb
  have HMB := hide (hb.only HAL.out (by simp))
  have hglt : g < w.heap.size := by obtain ⟨_, _, _, hb1, _⟩ := h; exact hb1.lt
  have hwg : w.heap.size ∉ [g] := by simp; omega
  have HN := hide (number_w _ N g 8 l hl (by omega) HA.out)
  have HU := hide hu
  clear h hb hu
  by_cases h2 : l.length < 8
  · have HV := hide (show (numV 8 l).1 = 4 by unfold numV; rw [if_pos h2])
    unfold NumPostW at HN
    simp only [if_pos h2] at HN
    clear h2
    go_enter Tryd.func77, Tryd.ntmps77
    go_wp2_with (go_at_call 94; refine HN.out.mono ?_; rintro e w1 ⟨rfl, rfl⟩)
    go_ret
    exact field_no HV.out (by decide) (HAL.out.mono (by simp))
  · unfold NumPostW at HN
    simp only [if_neg h2] at HN
    obtain ⟨x, hxx⟩ : ∃ x, x = lowV (l.take 8) := ⟨_, rfl⟩
    have HV := hide (show ((numV 8 l).1, Value.int .u64 ((numV 8 l).2.1 : Nat), (numV 8 l).2.2) = (0, Value.int .u64 (x : Nat), l.drop 8) by unfold numV; rw [if_neg h2, ← hxx])
    rw [← hxx] at HN
    clear h2 hxx
    go_enter Tryd.func77, Tryd.ntmps77
    go_wp2_with (first
      | (go_at_call 94; refine HN.out.mono ?_; rintro e w1 ⟨rfl, ha, ho⟩; have HA := hide ha; have HO := hide (HAL.out.mono (S' := [g]) (by simp) |>.trans ho); have HF := hide (HF.out.only ho hwg); have HMB := hide (HMB.out.only ho (by simpa using Ne.symm hgM)); clear ha ho; have f0 := HF.out.cell 0; have f2 := HF.out.cell 2; simp at f0 f2; have m0 := (HMB.out.cell 3).trans HU.out; have mf := HMB.out.frozen 3)
      | (go_at_call 107; refine (cntset M x _ m0 mf).mono ?_; rintro e w4 ⟨rfl, rfl⟩))
    go_ret
    exact field_yes HV.out HO.out HA.out hM hgM HM0.out
end
end Go.Proofs.YteoifokmbkpbnaaDoor

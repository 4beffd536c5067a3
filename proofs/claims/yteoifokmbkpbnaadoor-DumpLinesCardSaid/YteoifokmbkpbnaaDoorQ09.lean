/-
  Walks and plain words (texts We, Wf). No condition beyond those that each theorem states.
-/
import Derived.Test.YteoifokmbkpbnaaDoorQ08
namespace Go.Proofs.YteoifokmbkpbnaaDoor
section
open Go.RowKit Go.Deep

set_option maxRecDepth 100000 in
set_option maxHeartbeats 3200000 in
theorem row_none (k : Int) (h1 : (k == 1) = false) (h2 : (k == 2) = false) (h3 : (k == 3) = false) (h4 : (k == 4) = false) (w : World) : Calls Tryd.prog 76 #[.int .i64 k] w fun e w' => e = .returned (.slice none 0 0) ∧ Only [] w w' := by
  have hst := fun (W : World) (a : Addr) (fn : Fn) (c : Array Value) => (run_store Tryd.prog W a (.func fn #[] c) .plain rfl : (store a (.func fn #[] c)).run Tryd.prog W = stored Tryd.prog W a (.func fn #[] c) .plain)
  have hsn := fun (W : World) (a : Addr) => (run_store Tryd.prog W a .nilFunc .plain rfl : (store a .nilFunc).run Tryd.prog W = stored Tryd.prog W a .nilFunc .plain)
  have HO := hide (Only.refl [] w)
  go_enter Tryd.func76, Tryd.ntmps76
  go_wp2_with (go_at_call 95; refine (wnumber_any _ _).mono ?_; rintro e w1 ⟨rfl, hb1, hs1, ho1⟩; (first | (have HO := hide (HO.out.trans ho1)) | (have HO := hide ((HO.out.alloc _).trans ho1))); clear hb1 hs1 ho1)
  go_ret
  exact ⟨rfl, by repeat (first | exact HO.out | apply Only.alloc)⟩
theorem row_some (k : Int) (hk : k = 1 ∨ k = 2 ∨ k = 3 ∨ k = 4) (w : World) : Calls Tryd.prog 76 #[.int .i64 k] w fun e w' => ∃ g n, e = .returned (.slice (some ⟨g, 0, none⟩) n n) ∧ Only [] w w' := by
  rcases hk with rfl | rfl | rfl | rfl
  · exact (row_1 w).mono fun e w' ⟨g, _, _, h, _, _, _, _, _, _, ho⟩ => ⟨g, _, h, ho⟩
  · exact (row_2 w).mono fun e w' ⟨g, _, _, h, _, _, _, _, _, _, ho⟩ => ⟨g, _, h, ho⟩
  · exact (row_3 w).mono fun e w' ⟨g, _, _, h, _, _, _, _, _, _, ho⟩ => ⟨g, _, h, ho⟩
  · exact (row_4 w).mono fun e w' ⟨g, _, _, h, _, _, _, _, _, _, ho⟩ => ⟨g, _, h, ho⟩

theorem eq_nil_some (g n : Nat) (W : World) : (binOp .eql 120 (.slice (some ⟨g, 0, none⟩) n n) (.slice none 0 0)).run Tryd.prog W = .ok (.bool false) W := by
  have h : ∀ d : Nat, (Op.equalIn (d + 1) 120 (.slice (some ⟨g, 0, none⟩) n n) (.slice none 0 0)).run Tryd.prog W = .ok false W := fun d => by
    simp [Op.equalIn, run_underlying Tryd.underlying120]
  simp only [binOp]
  simp [Op.equal, Op.maxDepth, h 9999]
theorem eq_nil_none (W : World) : (binOp .eql 120 (.slice none 0 0) (.slice none 0 0)).run Tryd.prog W = .ok (.bool true) W := by
  have h : ∀ d : Nat, (Op.equalIn (d + 1) 120 (.slice none 0 0) (.slice none 0 0)).run Tryd.prog W = .ok true W := fun d => by
    simp [Op.equalIn, run_underlying Tryd.underlying120]
  simp only [binOp]
  simp [Op.equal, Op.maxDepth, h 9999]
/-- So many noughts, and what stands behind them; the code. -/
def zeroV : Nat → List UInt8 → Int × List UInt8
  | 0, l => (0, l)
  | _ + 1, [] => (4, [])
  | n + 1, b :: r => if b = 0 then zeroV n r else (3, [])
/-- The head of a message: the code, the kind, what is left. -/
def headV : List UInt8 → Int × Int × List UInt8
  | [] => (4, 0, [])
  | c :: r => if c = 1 ∨ c = 2 ∨ c = 3 ∨ c = 4 then (if (zeroV 3 r).1 = 0 then (0, (c.toNat : Int), (zeroV 3 r).2) else ((zeroV 3 r).1, 0, [])) else (3, 0, [])
def HeadPost (N : List Nat) (g : Nat) (r : Int × Int × List UInt8) (w : World) (e : Ending) (w' : World) : Prop :=
  e = .returned (.tuple #[.int .i64 r.2.1, .int .i64 r.1]) ∧ Only [g] w w' ∧ (r.1 = 0 → RdrAt w' N g r.2.2)
theorem head_no {N : List Nat} {g : Nat} {r : Int × Int × List UInt8} {c : Int} {w w' : World} (h : r = (c, 0, [])) (hc : c ≠ 0) (ho : Only [g] w w') : HeadPost N g r w (.returned (.tuple #[.int .i64 0, .int .i64 c])) w' := by
  subst h; exact ⟨rfl, ho, fun h => absurd h hc⟩
theorem head_yes {N : List Nat} {g : Nat} {r : Int × Int × List UInt8} {k : Int} {q : List UInt8} {w w' : World} (h : r = (0, k, q)) (ho : Only [g] w w') (ha : RdrAt w' N g q) : HeadPost N g r w (.returned (.tuple #[.int .i64 k, .int .i64 0])) w' := by
  subst h; exact ⟨rfl, ho, fun _ => ha⟩
theorem low_one (c : UInt8) (r : List UInt8) : lowV ((c :: r).take 1) = c.toNat := by simp [lowV]
theorem byte_is (c : UInt8) (n : Nat) (hn : n < 256) : c = UInt8.ofNat n ↔ (c.toNat : Int) = n := by
  constructor
  · rintro rfl; rw [UInt8.toNat_ofNat']; omega
  · intro h
    apply UInt8.toNat_inj.1
    rw [UInt8.toNat_ofNat']
    omega

set_option maxRecDepth 100000 in
set_option maxHeartbeats 6400000 in
theorem head_w (w : World) (N : List Nat) (g : Nat) (l : List UInt8) (hl : l.length ≤ 1099511627776) (h : RdrAt w N g l) :
    Calls Tryd.prog 75 #[.pointer (some ⟨g, 0, none⟩)] w (HeadPost N g (headV l) w) := by
  have HN := hide (fun W l (hl : l.length ≤ 1099511627776) (h : RdrAt W N g l) => number_w W N g 1 l hl (by omega) h)
  have en1 := fun g n W => eq_nil_some g n W
  have en2 := fun W => eq_nil_none W
  unfold NumPostW at HN
  cases l with
  | nil =>
    have HA := hide h
    have HV := hide (show headV [] = (4, 0, []) from rfl)
    have H1 := hide (HN.out w [] hl h)
    simp only [if_pos (show ([] : List UInt8).length < 1 by decide)] at H1
    clear h HN
    go_enter Tryd.func75, Tryd.ntmps75
    go_wp2_with (go_at_call 94; refine H1.out.mono ?_; rintro e w1 ⟨rfl, rfl⟩)
    go_ret2
    exact head_no HV.out (by decide) (Only.refl _ _)
  | cons c r =>
    have H1 := hide (HN.out w (c :: r) hl h)
    simp only [List.length_cons, if_neg (show ¬ r.length + 1 < 1 by omega), low_one, List.drop_succ_cons, List.drop_zero] at H1
    have hrl : r.length ≤ 1099511627776 := by simp only [List.length_cons] at hl; omega
    have hcw : IntKind.i64.wrap (c.toNat : Int) = c.toNat := by have := c.toNat_lt; rw [IntKind.wrap_i64]; omega
    by_cases hk : c = 1 ∨ c = 2 ∨ c = 3 ∨ c = 4
    · have hk2 : (c.toNat : Int) = 1 ∨ (c.toNat : Int) = 2 ∨ (c.toNat : Int) = 3 ∨ (c.toNat : Int) = 4 := by
        rcases hk with h | h | h | h
        · exact .inl ((byte_is c 1 (by decide)).1 h)
        · exact .inr (.inl ((byte_is c 2 (by decide)).1 h))
        · exact .inr (.inr (.inl ((byte_is c 3 (by decide)).1 h)))
        · exact .inr (.inr (.inr ((byte_is c 4 (by decide)).1 h)))
      have HRW := hide (fun W => row_some (c.toNat : Int) hk2 W)
      have HV := hide (show headV (c :: r) = if (zeroV 3 r).1 = 0 then (0, (c.toNat : Int), (zeroV 3 r).2) else ((zeroV 3 r).1, 0, []) from if_pos hk)
      have HRL := hide hrl
      generalize (c.toNat : Int) = k at *
      clear hk hk2 h hl hrl
      go_enter Tryd.func75, Tryd.ntmps75
      go_wp2_with (first
        | (go_at_call 94; refine H1.out.mono ?_; rintro e w1 ⟨rfl, ha, ho⟩; have HA := hide ha; have HO := hide ho; clear ha ho)
        | (go_at_call 76; refine (HRW.out _).mono ?_; rintro e w2 ⟨gg, n, rfl, ho⟩; have HA := hide (HA.out.only ho (by simp) (by simp)); have HO := hide (HO.out.trans (ho.mono (by simp))); clear ho))
      have HR0 := hide (show zeroV 3 r = zeroV (3 - 0) r from rfl)
      go_loopw [19] (fun i wr => ∃ (j : Nat) (q : List UInt8), j ≤ 3 ∧ i = .int .i64 j ∧ Hid (zeroV 3 r = zeroV (3 - j) q) ∧ Hid (q.length ≤ 1099511627776) ∧ Hid (RdrAt wr N g q) ∧ Hid (Only [g] w wr)) (fun i _ => 3 - (intOf i).toNat)
      case atStart => exact ⟨0, r, by omega, rfl, HR0, HRL, HA, HO⟩
      case round =>
        clear HA HO
        obtain ⟨j, q, hj, rfl, HZ, HQL, HA, HO⟩ := hrel
        by_cases hlt : j < 3
        · have hltI : (j : Int) < 3 := by omega
          obtain ⟨m, hm⟩ : ∃ m, 3 - j = m + 1 := ⟨2 - j, by omega⟩
          have HZ := hide (show zeroV 3 r = zeroV (m + 1) q by rw [HZ.out, hm])
          have H2 := hide (HN.out _ q HQL.out HA.out)
          cases q with
          | nil =>
            simp only [if_pos (show ([] : List UInt8).length < 1 by decide)] at H2
            have HV2 := hide (show headV (c :: r) = (4, 0, []) by rw [HV.out, HZ.out]; rfl)
            go_wp2_with (go_at_call 94; refine H2.out.mono ?_; rintro e w3 ⟨rfl, rfl⟩)
            go_ret2
            exact head_no HV2.out (by decide) HO.out
          | cons b q =>
            simp only [List.length_cons, if_neg (show ¬ q.length + 1 < 1 by omega), low_one, List.drop_succ_cons, List.drop_zero] at H2
            by_cases hb : b = 0
            · subst hb
              have hb0 : (((0 : UInt8).toNat : Nat) : Int) = 0 := rfl
              rw [hb0] at H2
              have HZ2 := hide (show zeroV 3 r = zeroV (3 - (j + 1)) q by rw [HZ.out, show 3 - (j + 1) = m by omega]; exact if_pos rfl)
              have HQ2 := hide (show q.length ≤ 1099511627776 by have := HQL.out; simp only [List.length_cons] at this; omega)
              go_wp2_with (go_at_call 94; refine H2.out.mono ?_; rintro e w3 ⟨rfl, ha, ho⟩; have HA := hide ha; have HO := hide (HO.out.trans ho); clear ha ho)
              go_roundw
              case rel => exact ⟨j + 1, q, by omega, by go_num, HZ2, HQ2, HA, HO⟩
              case measure => simp [intOf]; omega
            · have hbb : ((b.toNat : Int) != 0) = true := by
                rw [bne_iff_ne]
                intro h
                exact hb ((byte_is b 0 (by decide)).2 h)
              have HV2 := hide (show headV (c :: r) = (3, 0, []) by rw [HV.out, HZ.out, show zeroV (m + 1) (b :: q) = (3, []) from if_neg hb]; rfl)
              clear hb
              go_wp2_with (go_at_call 94; refine H2.out.mono ?_; rintro e w3 ⟨rfl, ha, ho⟩; have HA := hide ha; have HO := hide (HO.out.trans ho); clear ha ho)
              go_ret2
              exact head_no HV2.out (by decide) HO.out
        · have hge : ¬ (j : Int) < 3 := by omega
          have HV2 := hide (show headV (c :: r) = (0, k, q) by rw [HV.out, HZ.out, show 3 - j = 0 by omega]; rfl)
          go_wp2_with fail
          go_ret2
          exact head_yes HV2.out HO.out HA.out
    · have a1 : ((c.toNat : Int) == 1) = false := by rw [beq_eq_false_iff_ne]; intro h; exact hk (.inl ((byte_is c 1 (by decide)).2 h))
      have a2 : ((c.toNat : Int) == 2) = false := by rw [beq_eq_false_iff_ne]; intro h; exact hk (.inr (.inl ((byte_is c 2 (by decide)).2 h)))
      have a3 : ((c.toNat : Int) == 3) = false := by rw [beq_eq_false_iff_ne]; intro h; exact hk (.inr (.inr (.inl ((byte_is c 3 (by decide)).2 h))))
      have a4 : ((c.toNat : Int) == 4) = false := by rw [beq_eq_false_iff_ne]; intro h; exact hk (.inr (.inr (.inr ((byte_is c 4 (by decide)).2 h))))
      have HRW := hide (fun W => row_none (c.toNat : Int) a1 a2 a3 a4 W)
      have HV := hide (show headV (c :: r) = (3, 0, []) from if_neg hk)
      generalize (c.toNat : Int) = k at *
      clear hk a1 a2 a3 a4 h HN
      go_enter Tryd.func75, Tryd.ntmps75
      go_wp2_with (first
        | (go_at_call 94; refine H1.out.mono ?_; rintro e w1 ⟨rfl, ha, ho⟩; have HA := hide ha; have HO := hide ho; clear ha ho)
        | (go_at_call 76; refine (HRW.out _).mono ?_; rintro e w2 ⟨rfl, ho⟩; have HO := hide (HO.out.trans (ho.mono (by simp))); clear ho))
      go_ret2
      exact head_no HV.out (by decide) HO.out
end
section
open Go.RowKit Go.Deep

def fieldV (i : Nat) (l : List UInt8) : Int × Value × List UInt8 :=
  if i = 1 ∨ i = 2 then ((numV 4 l).1, .int .u32 ((numV 4 l).2.1 : Nat), (numV 4 l).2.2)
  else if i = 3 then ((numV 8 l).1, .int .u64 ((numV 8 l).2.1 : Nat), (numV 8 l).2.2)
  else ((textV l).1, .string (textV l).2.1, (textV l).2.2)
/-- The fields of a row, one after the other. -/
def fieldsV : List Nat → List UInt8 → Array Value → Int × List UInt8 × Array Value
  | [], l, cs => (0, l, cs)
  | i :: r, l, cs => if (fieldV i l).1 = 0 then fieldsV r (fieldV i l).2.2 (cs.setIfInBounds i (fieldV i l).2.1) else ((fieldV i l).1, [], #[])
def rowL (k : Int) : List Nat := if k = 1 then [1, 4, 5, 6, 11, 12] else if k = 2 then [1, 2, 4, 7, 11, 12] else if k = 3 then [2, 8, 9] else [2, 3, 10]
def zeroM (k : Int) : Array Value := #[.int .i64 k, .int .u32 0, .int .u32 0, .int .u64 0, .string ⟨#[]⟩, .string ⟨#[]⟩, .string ⟨#[]⟩, .string ⟨#[]⟩, .string ⟨#[]⟩, .string ⟨#[]⟩, .string ⟨#[]⟩, .string ⟨#[]⟩, .string ⟨#[]⟩]
/-- What any bytes are as a message: the code, the message's cells. -/
def readV (l : List UInt8) : Int × Array Value :=
  if (headV l).1 = 0 then
    (if (fieldsV (rowL (headV l).2.1) (headV l).2.2 (zeroM (headV l).2.1)).1 = 0 then
      (if (fieldsV (rowL (headV l).2.1) (headV l).2.2 (zeroM (headV l).2.1)).2.1 = [] then (0, (fieldsV (rowL (headV l).2.1) (headV l).2.2 (zeroM (headV l).2.1)).2.2) else (5, zeroM 0))
     else ((fieldsV (rowL (headV l).2.1) (headV l).2.2 (zeroM (headV l).2.1)).1, zeroM 0))
  else ((headV l).1, zeroM 0)
theorem read_head {l : List UInt8} (h : (headV l).1 ≠ 0) : readV l = ((headV l).1, zeroM 0) := if_neg h
theorem read_kind {l q : List UInt8} {k : Int} {r : Int × List UInt8 × Array Value} (h : headV l = (0, k, q)) (hf : fieldsV (rowL k) q (zeroM k) = r) : readV l = if r.1 = 0 then (if r.2.1 = [] then (0, r.2.2) else (5, zeroM 0)) else (r.1, zeroM 0) := by
  unfold readV
  rw [h]
  simp only [if_true]
  rw [hf]
theorem fields_yes {i : Nat} {r : List Nat} {l q : List UInt8} {cs : Array Value} {v : Value} (h : fieldV i l = (0, v, q)) : fieldsV (i :: r) l cs = fieldsV r q (cs.setIfInBounds i v) := by rw [fieldsV, h]; rfl
theorem fields_no {i : Nat} {r : List Nat} {l q : List UInt8} {cs : Array Value} {v : Value} {c : Int} (h : fieldV i l = (c, v, q)) (hc : c ≠ 0) : fieldsV (i :: r) l cs = (c, [], #[]) := by rw [fieldsV, h]; exact if_neg hc
theorem text_len (l : List UInt8) : (textV l).2.2.length ≤ l.length := by
  unfold textV
  split
  · simp
  · split
    · simp
    · split
      · simp only [List.length_drop]; omega
      · simp
theorem num_len (k : Nat) (l : List UInt8) : (numV k l).2.2.length ≤ l.length := by
  unfold numV
  split
  · simp
  · simp only [List.length_drop]; omega
def ReadPostW (r : Int × Array Value) (w : World) (e : Ending) (w' : World) : Prop := e = .returned (.tuple #[.agg r.2, .int .i64 r.1]) ∧ Only [] w w'
theorem readw {r : Int × Array Value} {c : Int} {cs : Array Value} {w w' : World} (h : r = (c, cs)) (ho : Only [] w w') : ReadPostW r w (.returned (.tuple #[.agg cs, .int .i64 c])) w' := by subst h; exact ⟨rfl, ho⟩
theorem Rd.more {w : World} {N N' : List Nat} {v : Value} {xs : List Value} (h : Rd w N v xs) (hs : ∀ x ∈ N', x ∈ N ∨ w.heap.size ≤ x) : Rd w N' v xs := by
  obtain ⟨A, cap, hv, hc, hm, h⟩ := h
  refine ⟨A, cap, hv, hc, hm, ?_⟩
  rcases h with h | ⟨g, o, hA, hg, hl, hcell⟩
  · exact .inl h
  · exact .inr ⟨g, o, hA, fun hh => (hs g hh).elim hg (by omega), hl, hcell⟩
theorem RdrAt.more {w : World} {N N' : List Nat} {g : Nat} {l : List UInt8} (h : RdrAt w N g l) (hs : ∀ x ∈ N', x ∈ N ∨ w.heap.size ≤ x) : RdrAt w N' g l := by
  obtain ⟨G, O, cap, hb, hr⟩ := h
  exact ⟨G, O, cap, hb, hr.more (by intro x hx; rcases List.mem_cons.1 hx with h | h; exact .inl (by rw [h]; exact List.mem_cons_self); exact (hs x h).imp (fun h => List.mem_cons_of_mem _ h) id)⟩
theorem set13 {w : World} {R : Nat} {t : TypeId} {a0 a1 a2 a3 a4 a5 a6 a7 a8 a9 a10 a11 a12 : Value} (h : Blk w R t #[a0, a1, a2, a3, a4, a5, a6, a7, a8, a9, a10, a11, a12]) (v0 v1 v2 v3 v4 v5 v6 v7 v8 v9 v10 v11 v12 : Value) : Blk (((((((((((((w.setCell ⟨R, 0, none⟩ v0).setCell ⟨R, 1, none⟩ v1).setCell ⟨R, 2, none⟩ v2).setCell ⟨R, 3, none⟩ v3).setCell ⟨R, 4, none⟩ v4).setCell ⟨R, 5, none⟩ v5).setCell ⟨R, 6, none⟩ v6).setCell ⟨R, 7, none⟩ v7).setCell ⟨R, 8, none⟩ v8).setCell ⟨R, 9, none⟩ v9).setCell ⟨R, 10, none⟩ v10).setCell ⟨R, 11, none⟩ v11).setCell ⟨R, 12, none⟩ v12) R t #[v0, v1, v2, v3, v4, v5, v6, v7, v8, v9, v10, v11, v12] := by
  have h2 := (((((((((((((h.set_ 0 v0).set_ 1 v1).set_ 2 v2).set_ 3 v3).set_ 4 v4).set_ 5 v5).set_ 6 v6).set_ 7 v7).set_ 8 v8).set_ 9 v9).set_ 10 v10).set_ 11 v11).set_ 12 v12)
  simp only [List.setIfInBounds_toArray, List.set_cons_zero, List.set_cons_succ] at h2
  exact h2
theorem only13 {S : List Nat} {a w : World} {R : Nat} (h : Only S a w) (hR : R ∈ S ∨ a.heap.size ≤ R) (v0 v1 v2 v3 v4 v5 v6 v7 v8 v9 v10 v11 v12 : Value) : Only S a (((((((((((((w.setCell ⟨R, 0, none⟩ v0).setCell ⟨R, 1, none⟩ v1).setCell ⟨R, 2, none⟩ v2).setCell ⟨R, 3, none⟩ v3).setCell ⟨R, 4, none⟩ v4).setCell ⟨R, 5, none⟩ v5).setCell ⟨R, 6, none⟩ v6).setCell ⟨R, 7, none⟩ v7).setCell ⟨R, 8, none⟩ v8).setCell ⟨R, 9, none⟩ v9).setCell ⟨R, 10, none⟩ v10).setCell ⟨R, 11, none⟩ v11).setCell ⟨R, 12, none⟩ v12) :=
  (((((((((((((h.setCell (p := ⟨R, 0, none⟩) hR v0).setCell (p := ⟨R, 1, none⟩) hR v1).setCell (p := ⟨R, 2, none⟩) hR v2).setCell (p := ⟨R, 3, none⟩) hR v3).setCell (p := ⟨R, 4, none⟩) hR v4).setCell (p := ⟨R, 5, none⟩) hR v5).setCell (p := ⟨R, 6, none⟩) hR v6).setCell (p := ⟨R, 7, none⟩) hR v7).setCell (p := ⟨R, 8, none⟩) hR v8).setCell (p := ⟨R, 9, none⟩) hR v9).setCell (p := ⟨R, 10, none⟩) hR v10).setCell (p := ⟨R, 11, none⟩) hR v11).setCell (p := ⟨R, 12, none⟩) hR v12)

set_option maxRecDepth 100000 in
set_option maxHeartbeats 3200000 in
theorem take_nil (w : World) (g : Nat) (A : Option Addr) (cap : Nat) (h : Blk w g 117 #[.slice A 0 cap]) : Calls Tryd.prog 109 #[.pointer (some ⟨g, 0, none⟩), .int .i64 1] w fun e w' => e = .returned (.tuple #[.slice none 0 0, .bool false]) ∧ w = w' := by
  have k0 := h.cell 0
  simp at k0
  clear h
  go_enter Tryd.func109, Tryd.ntmps109
  go_wp2
  go_ret2
  exact ⟨rfl, rfl⟩
theorem number_nil (w : World) (g : Nat) (A : Option Addr) (cap : Nat) (h : Blk w g 117 #[.slice A 0 cap]) : Calls Tryd.prog 94 #[.pointer (some ⟨g, 0, none⟩), .int .i64 1] w fun e w' => e = .returned (.tuple #[.int .u64 0, .bool false]) ∧ w = w' := by
  go_enter Tryd.func94, Tryd.ntmps94
  go_wp2_with (go_at_call 109; refine (take_nil _ g A cap h).mono ?_; rintro e w1 ⟨rfl, rfl⟩)
  go_ret2
  exact ⟨rfl, rfl⟩
theorem head_nil (w : World) (g : Nat) (A : Option Addr) (cap : Nat) (h : Blk w g 117 #[.slice A 0 cap]) : Calls Tryd.prog 75 #[.pointer (some ⟨g, 0, none⟩)] w fun e w' => e = .returned (.tuple #[.int .i64 0, .int .i64 4]) ∧ w = w' := by
  go_enter Tryd.func75, Tryd.ntmps75
  go_wp2_with (go_at_call 94; refine (number_nil _ g A cap h).mono ?_; rintro e w1 ⟨rfl, rfl⟩)
  go_ret2
  exact ⟨rfl, rfl⟩
set_option maxRecDepth 100000 in
set_option maxHeartbeats 6400000 in
theorem Read_nil (w : World) (A : Option Addr) (cap : Nat) : Calls Tryd.prog 61 #[.slice A 0 cap] w (ReadPostW (readV []) w) := by
  have HRB := hide ((Blk.new w 78 (zeroM 0)).alloc (.cells #[.slice A 0 cap] 117))
  have HG := hide (Blk.new (w.alloc (.cells (zeroM 0) 78)) 117 #[.slice A 0 cap])
  rw [World.size_alloc] at HG
  have HO := hide (((Only.refl [] w).alloc (.cells (zeroM 0) 78)).alloc (.cells #[.slice A 0 cap] 117))
  unfold zeroM at HRB HG HO
  have HV := hide (show readV [] = (4, zeroM 0) from read_head (l := []) (by decide))
  go_enter Tryd.func61, Tryd.ntmps61
  go_wp2_with (go_at_call 75; refine (head_nil _ _ A cap HG.out).mono ?_; rintro e w1 ⟨rfl, rfl⟩)
  refine bodyPost_ret (results_cell_two rfl _ _ w.heap.size 78 _ (0, 0) _ rfl HRB.out Tryd.underlying78 rfl (by kernel_rfl)) rfl ?_
  exact readw HV.out HO.out
end
end Go.Proofs.YteoifokmbkpbnaaDoor

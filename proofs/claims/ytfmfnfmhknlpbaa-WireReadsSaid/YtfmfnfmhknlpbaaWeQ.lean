/-
  The reader's head, by walking. Condition: at most 2^40 bytes are left.
-/
import Derived.Test.YtfmfnfmhknlpbaaWdQ
namespace Go.Proofs.Ytfmfnfmhknlpbaa
open Go.RowKit Go.Deep

set_option maxRecDepth 100000 in
set_option maxHeartbeats 3200000 in
theorem row_none (k : Int) (h1 : (k == 1) = false) (h2 : (k == 2) = false) (h3 : (k == 3) = false) (h4 : (k == 4) = false) (w : World) : Calls Try.prog 28 #[.int .i64 k] w fun e w' => e = .returned (.slice none 0 0) ∧ Only [] w w' := by
  have hst := fun (W : World) (a : Addr) (fn : Fn) (c : Array Value) => (run_store Try.prog W a (.func fn #[] c) .plain rfl : (store a (.func fn #[] c)).run Try.prog W = stored Try.prog W a (.func fn #[] c) .plain)
  have hsn := fun (W : World) (a : Addr) => (run_store Try.prog W a .nilFunc .plain rfl : (store a .nilFunc).run Try.prog W = stored Try.prog W a .nilFunc .plain)
  have HO := hide (Only.refl [] w)
  go_enter Try.func28, Try.ntmps28
  go_wp2_with (go_at_call 46; refine (wnumber_any _ _).mono ?_; rintro e w1 ⟨rfl, hb1, hs1, ho1⟩; (first | (have HO := hide (HO.out.trans ho1)) | (have HO := hide ((HO.out.alloc _).trans ho1))); clear hb1 hs1 ho1)
  go_ret
  exact ⟨rfl, by repeat (first | exact HO.out | apply Only.alloc)⟩
theorem row_some (k : Int) (hk : k = 1 ∨ k = 2 ∨ k = 3 ∨ k = 4) (w : World) : Calls Try.prog 28 #[.int .i64 k] w fun e w' => ∃ g n, e = .returned (.slice (some ⟨g, 0, none⟩) n n) ∧ Only [] w w' := by
  rcases hk with rfl | rfl | rfl | rfl
  · exact (row_1 w).mono fun e w' ⟨g, _, _, h, _, _, _, _, _, _, ho⟩ => ⟨g, _, h, ho⟩
  · exact (row_2 w).mono fun e w' ⟨g, _, _, h, _, _, _, _, _, _, ho⟩ => ⟨g, _, h, ho⟩
  · exact (row_3 w).mono fun e w' ⟨g, _, _, h, _, _, _, _, _, _, ho⟩ => ⟨g, _, h, ho⟩
  · exact (row_4 w).mono fun e w' ⟨g, _, _, h, _, _, _, _, _, _, ho⟩ => ⟨g, _, h, ho⟩

theorem eq_nil_some (g n : Nat) (W : World) : (binOp .eql 57 (.slice (some ⟨g, 0, none⟩) n n) (.slice none 0 0)).run Try.prog W = .ok (.bool false) W := by
  have h : ∀ d : Nat, (Op.equalIn (d + 1) 57 (.slice (some ⟨g, 0, none⟩) n n) (.slice none 0 0)).run Try.prog W = .ok false W := fun d => by
    simp [Op.equalIn, run_underlying Try.underlying57]
  simp only [binOp]
  simp [Op.equal, Op.maxDepth, h 9999]
theorem eq_nil_none (W : World) : (binOp .eql 57 (.slice none 0 0) (.slice none 0 0)).run Try.prog W = .ok (.bool true) W := by
  have h : ∀ d : Nat, (Op.equalIn (d + 1) 57 (.slice none 0 0) (.slice none 0 0)).run Try.prog W = .ok true W := fun d => by
    simp [Op.equalIn, run_underlying Try.underlying57]
  simp only [binOp]
  simp [Op.equal, Op.maxDepth, h 9999]
/-- So many noughts, and what stands behind them; the code. -/
def zeroV : Nat → List UInt8 → Int × List UInt8
  | 0, l => (0, l)
  | _ + 1, [] => (4, [])
  | n + 1, b :: r => if b = 0 then zeroV n r else (3, [])
/-- The head of a message: the code, the kind, what is left. -/
def headV : List UInt8 → Int × Int × List UInt8
  | [] => (4, 0, [])
  | c :: r => if c = 1 ∨ c = 2 ∨ c = 3 ∨ c = 4 then (if (zeroV 3 r).1 = 0 then (0, (c.toNat : Int), (zeroV 3 r).2) else ((zeroV 3 r).1, 0, [])) else (3, 0, [])
def HeadPost (N : List Nat) (g : Nat) (r : Int × Int × List UInt8) (w : World) (e : Ending) (w' : World) : Prop :=
  e = .returned (.tuple #[.int .i64 r.2.1, .int .i64 r.1]) ∧ Only [g] w w' ∧ (r.1 = 0 → RdrAt w' N g r.2.2)
theorem head_no {N : List Nat} {g : Nat} {r : Int × Int × List UInt8} {c : Int} {w w' : World} (h : r = (c, 0, [])) (hc : c ≠ 0) (ho : Only [g] w w') : HeadPost N g r w (.returned (.tuple #[.int .i64 0, .int .i64 c])) w' := by
  subst h; exact ⟨rfl, ho, fun h => absurd h hc⟩
theorem head_yes {N : List Nat} {g : Nat} {r : Int × Int × List UInt8} {k : Int} {q : List UInt8} {w w' : World} (h : r = (0, k, q)) (ho : Only [g] w w') (ha : RdrAt w' N g q) : HeadPost N g r w (.returned (.tuple #[.int .i64 k, .int .i64 0])) w' := by
  subst h; exact ⟨rfl, ho, fun _ => ha⟩
theorem low_one (c : UInt8) (r : List UInt8) : lowV ((c :: r).take 1) = c.toNat := by simp [lowV]
theorem byte_is (c : UInt8) (n : Nat) (hn : n < 256) : c = UInt8.ofNat n ↔ (c.toNat : Int) = n := by
  constructor
  · rintro rfl; rw [UInt8.toNat_ofNat']; omega
  · intro h
    apply UInt8.toNat_inj.1
    rw [UInt8.toNat_ofNat']
    omega

set_option maxRecDepth 100000 in
set_option maxHeartbeats 6400000 in
theorem head_w (w : World) (N : List Nat) (g : Nat) (l : List UInt8) (hl : l.length ≤ 1099511627776) (h : RdrAt w N g l) :
    Calls Try.prog 27 #[.pointer (some ⟨g, 0, none⟩)] w (HeadPost N g (headV l) w) := by
  have HN := hide (fun W l (hl : l.length ≤ 1099511627776) (h : RdrAt W N g l) => number_w W N g 1 l hl (by omega) h)
  have en1 := fun g n W => eq_nil_some g n W
  have en2 := fun W => eq_nil_none W
  unfold NumPostW at HN
  cases l with
  | nil =>
    have HA := hide h
    have HV := hide (show headV [] = (4, 0, []) from rfl)
    have H1 := hide (HN.out w [] hl h)
    simp only [if_pos (show ([] : List UInt8).length < 1 by decide)] at H1
    clear h HN
    go_enter Try.func27, Try.ntmps27
    go_wp2_with (go_at_call 45; refine H1.out.mono ?_; rintro e w1 ⟨rfl, rfl⟩)
    go_ret2
    exact head_no HV.out (by decide) (Only.refl _ _)
  | cons c r =>
    have H1 := hide (HN.out w (c :: r) hl h)
    simp only [List.length_cons, if_neg (show ¬ r.length + 1 < 1 by omega), low_one, List.drop_succ_cons, List.drop_zero] at H1
    have hrl : r.length ≤ 1099511627776 := by simp only [List.length_cons] at hl; omega
    have hcw : IntKind.i64.wrap (c.toNat : Int) = c.toNat := by have := c.toNat_lt; rw [IntKind.wrap_i64]; omega
    by_cases hk : c = 1 ∨ c = 2 ∨ c = 3 ∨ c = 4
    · have hk2 : (c.toNat : Int) = 1 ∨ (c.toNat : Int) = 2 ∨ (c.toNat : Int) = 3 ∨ (c.toNat : Int) = 4 := by
        rcases hk with h | h | h | h
        · exact .inl ((byte_is c 1 (by decide)).1 h)
        · exact .inr (.inl ((byte_is c 2 (by decide)).1 h))
        · exact .inr (.inr (.inl ((byte_is c 3 (by decide)).1 h)))
        · exact .inr (.inr (.inr ((byte_is c 4 (by decide)).1 h)))
      have HRW := hide (fun W => row_some (c.toNat : Int) hk2 W)
      have HV := hide (show headV (c :: r) = if (zeroV 3 r).1 = 0 then (0, (c.toNat : Int), (zeroV 3 r).2) else ((zeroV 3 r).1, 0, []) from if_pos hk)
      have HRL := hide hrl
      generalize (c.toNat : Int) = k at *
      clear hk hk2 h hl hrl
      go_enter Try.func27, Try.ntmps27
      go_wp2_with (first
        | (go_at_call 45; refine H1.out.mono ?_; rintro e w1 ⟨rfl, ha, ho⟩; have HA := hide ha; have HO := hide ho; clear ha ho)
        | (go_at_call 28; refine (HRW.out _).mono ?_; rintro e w2 ⟨gg, n, rfl, ho⟩; have HA := hide (HA.out.only ho (by simp) (by simp)); have HO := hide (HO.out.trans (ho.mono (by simp))); clear ho))
      have HR0 := hide (show zeroV 3 r = zeroV (3 - 0) r from rfl)
      go_loopw [19] (fun i wr => ∃ (j : Nat) (q : List UInt8), j ≤ 3 ∧ i = .int .i64 j ∧ Hid (zeroV 3 r = zeroV (3 - j) q) ∧ Hid (q.length ≤ 1099511627776) ∧ Hid (RdrAt wr N g q) ∧ Hid (Only [g] w wr)) (fun i _ => 3 - (intOf i).toNat)
      case atStart => exact ⟨0, r, by omega, rfl, HR0, HRL, HA, HO⟩
      case round =>
        clear HA HO
        obtain ⟨j, q, hj, rfl, HZ, HQL, HA, HO⟩ := hrel
        by_cases hlt : j < 3
        · have hltI : (j : Int) < 3 := by omega
          obtain ⟨m, hm⟩ : ∃ m, 3 - j = m + 1 := ⟨2 - j, by omega⟩
          have HZ := hide (show zeroV 3 r = zeroV (m + 1) q by rw [HZ.out, hm])
          have H2 := hide (HN.out _ q HQL.out HA.out)
          cases q with
          | nil =>
            simp only [if_pos (show ([] : List UInt8).length < 1 by decide)] at H2
            have HV2 := hide (show headV (c :: r) = (4, 0, []) by rw [HV.out, HZ.out]; rfl)
            go_wp2_with (go_at_call 45; refine H2.out.mono ?_; rintro e w3 ⟨rfl, rfl⟩)
            go_ret2
            exact head_no HV2.out (by decide) HO.out
          | cons b q =>
            simp only [List.length_cons, if_neg (show ¬ q.length + 1 < 1 by omega), low_one, List.drop_succ_cons, List.drop_zero] at H2
            by_cases hb : b = 0
            · subst hb
              have hb0 : (((0 : UInt8).toNat : Nat) : Int) = 0 := rfl
              rw [hb0] at H2
              have HZ2 := hide (show zeroV 3 r = zeroV (3 - (j + 1)) q by rw [HZ.out, show 3 - (j + 1) = m by omega]; exact if_pos rfl)
              have HQ2 := hide (show q.length ≤ 1099511627776 by have := HQL.out; simp only [List.length_cons] at this; omega)
              go_wp2_with (go_at_call 45; refine H2.out.mono ?_; rintro e w3 ⟨rfl, ha, ho⟩; have HA := hide ha; have HO := hide (HO.out.trans ho); clear ha ho)
              go_roundw
              case rel => exact ⟨j + 1, q, by omega, by go_num, HZ2, HQ2, HA, HO⟩
              case measure => simp [intOf]; omega
            · have hbb : ((b.toNat : Int) != 0) = true := by
                rw [bne_iff_ne]
                intro h
                exact hb ((byte_is b 0 (by decide)).2 h)
              have HV2 := hide (show headV (c :: r) = (3, 0, []) by rw [HV.out, HZ.out, show zeroV (m + 1) (b :: q) = (3, []) from if_neg hb]; rfl)
              clear hb
              go_wp2_with (go_at_call 45; refine H2.out.mono ?_; rintro e w3 ⟨rfl, ha, ho⟩; have HA := hide ha; have HO := hide (HO.out.trans ho); clear ha ho)
              go_ret2
              exact head_no HV2.out (by decide) HO.out
        · have hge : ¬ (j : Int) < 3 := by omega
          have HV2 := hide (show headV (c :: r) = (0, k, q) by rw [HV.out, HZ.out, show 3 - j = 0 by omega]; rfl)
          go_wp2_with fail
          go_ret2
          exact head_yes HV2.out HO.out HA.out
    · have a1 : ((c.toNat : Int) == 1) = false := by rw [beq_eq_false_iff_ne]; intro h; exact hk (.inl ((byte_is c 1 (by decide)).2 h))
      have a2 : ((c.toNat : Int) == 2) = false := by rw [beq_eq_false_iff_ne]; intro h; exact hk (.inr (.inl ((byte_is c 2 (by decide)).2 h)))
      have a3 : ((c.toNat : Int) == 3) = false := by rw [beq_eq_false_iff_ne]; intro h; exact hk (.inr (.inr (.inl ((byte_is c 3 (by decide)).2 h))))
      have a4 : ((c.toNat : Int) == 4) = false := by rw [beq_eq_false_iff_ne]; intro h; exact hk (.inr (.inr (.inr ((byte_is c 4 (by decide)).2 h))))
      have HRW := hide (fun W => row_none (c.toNat : Int) a1 a2 a3 a4 W)
      have HV := hide (show headV (c :: r) = (3, 0, []) from if_neg hk)
      generalize (c.toNat : Int) = k at *
      clear hk a1 a2 a3 a4 h HN
      go_enter Try.func27, Try.ntmps27
      go_wp2_with (first
        | (go_at_call 45; refine H1.out.mono ?_; rintro e w1 ⟨rfl, ha, ho⟩; have HA := hide ha; have HO := hide ho; clear ha ho)
        | (go_at_call 28; refine (HRW.out _).mono ?_; rintro e w2 ⟨rfl, ho⟩; have HO := hide (HO.out.trans (ho.mono (by simp))); clear ho))
      go_ret2
      exact head_no HV.out (by decide) HO.out
end Go.Proofs.Ytfmfnfmhknlpbaa

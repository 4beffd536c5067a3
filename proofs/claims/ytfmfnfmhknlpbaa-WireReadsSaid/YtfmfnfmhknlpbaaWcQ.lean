/-
  The reader of layer 6: take and number, by walking. Condition: lengths below 2^40.
-/
import Derived.Test.YtfmfnfmhknlpbaaWbQ
namespace Go.Proofs.Ytfmfnfmhknlpbaa
open Go.RowKit Go.Deep

/-- A reader's block g: what is left reads as l. -/
def RdrAt (w : World) (N : List Nat) (g : Nat) (l : List UInt8) : Prop :=
  ∃ G O cap, Blk w g 55 #[.slice (some ⟨G, O, none⟩) l.length cap] ∧ Rd w (g :: N) (.slice (some ⟨G, O, none⟩) l.length cap) (ints .u8 (byts l))
theorem RdrAt.only {w w' : World} {N S : List Nat} {g : Nat} {l : List UInt8} (h : RdrAt w N g l) (ho : Only S w w') (hg : g ∉ S) (hS : ∀ x ∈ S, x ∈ N) : RdrAt w' N g l := by
  obtain ⟨G, O, cap, hb, hr⟩ := h
  exact ⟨G, O, cap, hb.only ho hg, hr.only ho (fun x hx => List.mem_cons_of_mem _ (hS x hx))⟩
theorem Rd.drop_ {w : World} {N : List Nat} {G O n cap : Nat} {xs : List Value} (h : Rd w N (.slice (some ⟨G, O, none⟩) n cap) xs) (m : Nat) (hm : m ≤ n) (hc : m < cap) : Rd w N (.slice (some ⟨G, O + m, none⟩) (n - m) (cap - m)) (xs.drop m) := by
  obtain ⟨A, cap', hv, h1, h2, h3⟩ := h
  injection hv with e1 e2 e3
  subst e1 e2 e3
  refine ⟨_, _, by rw [List.length_drop], by rw [List.length_drop]; omega, by omega, ?_⟩
  rcases h3 with h3 | ⟨g, o, hA, hg, hl, hcell⟩
  · subst h3; exact .inl (by simp)
  · injection hA with hA
    injection hA with a1 a2
    subst a1 a2
    refine .inr ⟨G, O + m, rfl, hg, hl, fun i x hx => ?_⟩
    rw [List.getElem?_drop] at hx
    rw [Nat.add_assoc]
    exact hcell _ _ hx
theorem Rd.none_ {w : World} {N : List Nat} {A : Option Addr} {cap : Nat} (hc : cap ≤ maxLen) : Rd w N (.slice A 0 cap) (ints .u8 (byts [])) := ⟨A, cap, rfl, Nat.zero_le _, hc, .inl rfl⟩

/-- What take hands back. -/
def TakePostW (N : List Nat) (g n : Nat) (l : List UInt8) (w : World) (e : Ending) (w' : World) : Prop :=
  if l.length < n then e = .returned (.tuple #[.slice none 0 0, .bool false]) ∧ w = w'
  else ∃ G O cap, e = .returned (.tuple #[.slice (some ⟨G, O, none⟩) n cap, .bool true]) ∧ Rd w' (g :: N) (.slice (some ⟨G, O, none⟩) n cap) (ints .u8 (byts (l.take n))) ∧ RdrAt w' N g (l.drop n) ∧ Only [g] w w'
theorem ints_take (l : List UInt8) (n : Nat) : (ints .u8 (byts l)).take n = ints .u8 (byts (l.take n)) := by simp [ints, byts, List.map_take]
theorem ints_drop (l : List UInt8) (n : Nat) : (ints .u8 (byts l)).drop n = ints .u8 (byts (l.drop n)) := by simp [ints, byts, List.map_drop]
theorem takeW_yes {N : List Nat} {g n : Nat} {l : List UInt8} {w : World} {G O cap O2 cap2 m : Nat} (hle : ¬ l.length < n) (hb : Blk w g 55 #[.slice (some ⟨G, O, none⟩) l.length cap]) (hr : Rd w (g :: N) (.slice (some ⟨G, O, none⟩) l.length cap) (ints .u8 (byts l)))
    (hm : m = (l.drop n).length) (h2 : Rd w (g :: N) (.slice (some ⟨G, O2, none⟩) m cap2) (ints .u8 (byts (l.drop n)))) :
    TakePostW N g n l w (.returned (.tuple #[.slice (some ⟨G, O, none⟩) n cap, .bool true])) (w.setCell ⟨g, 0, none⟩ (.slice (some ⟨G, O2, none⟩) m cap2)) := by
  have ho : Only [g] w (w.setCell ⟨g, 0, none⟩ (.slice (some ⟨G, O2, none⟩) m cap2)) := (Only.refl [g] w).setCell (p := ⟨g, 0, none⟩) (.inl (by simp)) _
  unfold TakePostW
  rw [if_neg hle]
  refine ⟨G, O, cap, rfl, ?_, ⟨G, O2, cap2, ?_, ?_⟩, ho⟩
  · have h := (hr.take n (by omega)).only ho (by simp)
    rwa [ints_take] at h
  · rw [← hm]; exact hb.set_ 0 _
  · rw [← hm]; exact h2.only ho (by simp)
set_option maxRecDepth 100000 in
set_option maxHeartbeats 3200000 in
theorem take_w (w : World) (N : List Nat) (g n : Nat) (l : List UInt8) (hl : l.length ≤ 1099511627776) (hn : n ≤ 65536) (h : RdrAt w N g l) :
    Calls Try.prog 60 #[.pointer (some ⟨g, 0, none⟩), .int .i64 n] w (TakePostW N g n l w) := by
  obtain ⟨G, O, cap, hb, hr⟩ := h
  obtain ⟨A, cap', hv, hc1, hc2⟩ := hr.formb
  injection hv with e1 e2 e3
  subst e3
  unfold maxLen at hc2
  have k0 := hb.cell 0
  simp at k0
  have kf := hb.frozen
  have HB := hide hb
  have HR := hide hr
  have HO := hide (Only.refl [g] w)
  clear hb hr e1 e2
  by_cases hlt : l.length < n
  · have hI : (l.length : Int) < n := by omega
    have HP := hide (fun e w' => show (e = Ending.returned (.tuple #[.slice none 0 0, .bool false]) ∧ w = w') → TakePostW N g n l w e w' from fun h => by unfold TakePostW; rw [if_pos hlt]; exact h)
    clear hlt
    go_enter Try.func60, Try.ntmps60
    go_wp2
    go_ret2
    exact HP.out _ _ ⟨rfl, rfl⟩
  · have hI : ¬ (l.length : Int) < n := by omega
    have hle : (n : Int) ≤ l.length := by omega
    have hle2 : n ≤ l.length := by omega
    by_cases hcap : n = cap
    · subst hcap
      have hlen : l.length = n := by omega
      have HT := HR.out.take n (by omega)
      clear hlt
      go_enter Try.func60, Try.ntmps60
      go_wp2
      go_ret2
      exact takeW_yes (by omega) HB.out HR.out (by rw [List.length_drop]; omega) (by rw [List.drop_of_length_le (by omega)]; exact Rd.none_ (Nat.zero_le _))
    · have hcI : ¬ (cap : Int) = n := by omega
      have hcN : ¬ cap = n := by omega
      clear hlt
      go_enter Try.func60, Try.ntmps60
      go_wp2
      go_ret2
      exact takeW_yes (by omega) HB.out HR.out (by rw [List.length_drop]) (by rw [← ints_drop]; exact HR.out.drop_ n (by omega) (by omega))

/-- A number, the lowest byte first. -/
def lowV : List UInt8 → Nat
  | [] => 0
  | b :: r => b.toNat + 256 * lowV r
theorem lowV_snoc (l : List UInt8) (b : UInt8) : lowV (l ++ [b]) = lowV l + b.toNat * 256 ^ l.length := by
  induction l with
  | nil => simp [lowV]
  | cons a r ih => rw [List.cons_append, lowV, lowV, ih, List.length_cons, Nat.pow_succ]; rw [Nat.mul_add]; rw [Nat.add_assoc]; congr 2; rw [Nat.mul_comm 256, Nat.mul_assoc]
theorem lowV_lt (l : List UInt8) : lowV l < 256 ^ l.length := by
  induction l with
  | nil => simp [lowV]
  | cons a r ih =>
    rw [lowV, List.length_cons, Nat.pow_succ]
    have := a.toNat_lt
    omega
theorem lowV_take (l : List UInt8) (k : Nat) (hk : k < l.length) : lowV (l.take (k + 1)) = lowV (l.take k) + (l.getD k 0).toNat * 256 ^ k := by
  have h : l.take (k + 1) = l.take k ++ [l.getD k 0] := by
    rw [List.take_succ_eq_append_getElem hk]
    simp [List.getElem?_eq_getElem hk]
  rw [h, lowV_snoc, List.length_take, Nat.min_eq_left (Nat.le_of_lt hk)]
set_option maxRecDepth 100000 in
theorem or_shift (u b j : Nat) (hu : u < 256 ^ j) (hb : b < 256) (hj : j < 8) : bits .or .u64 (u : Int) (IntKind.u64.wrap (IntKind.u64.wrap (b : Int) * 2 ^ (8 * j))) = ((u + b * 256 ^ j : Nat) : Int) := by
  have hp : 2 ^ (8 * j) = 256 ^ j := by rw [Nat.pow_mul]
  have h8 : 256 ^ (j + 1) ≤ 256 ^ 8 := Nat.pow_le_pow_right (by decide) (by omega)
  have e8 : 256 ^ 8 = 18446744073709551616 := by decide
  rw [e8, Nat.pow_succ] at h8
  have hb1 : b * 256 ^ j ≤ 255 * 256 ^ j := Nat.mul_le_mul_right _ (by omega)
  have hlt : b * 256 ^ j < 18446744073709551616 := by omega
  have hul : u < 18446744073709551616 := by omega
  have w1 : IntKind.u64.wrap (b : Int) = (b : Int) := by rw [IntKind.wrap_u64]; omega
  have e1 : (b : Int) * 2 ^ (8 * j) = ((b * 256 ^ j : Nat) : Int) := by rw [← hp]; push_cast; rfl
  have w2 : IntKind.u64.wrap ((b * 256 ^ j : Nat) : Int) = ((b * 256 ^ j : Nat) : Int) := by
    generalize b * 256 ^ j = x at *
    rw [IntKind.wrap_u64]; omega
  rw [w1, e1, w2]
  have e2 : (BitVec.ofInt 64 ((u : Nat) : Int)).toNat = u := by rw [BitVec.ofInt_natCast, BitVec.toNat_ofNat]; exact Nat.mod_eq_of_lt hul
  have e3 : (BitVec.ofInt 64 ((b * 256 ^ j : Nat) : Int)).toNat = b * 256 ^ j := by rw [BitVec.ofInt_natCast, BitVec.toNat_ofNat]; exact Nat.mod_eq_of_lt hlt
  have e4 : u ||| (b * 256 ^ j) = u + b * 256 ^ j := by
    have h := Nat.two_pow_add_eq_or_of_lt (i := 8 * j) (b := u) (by rw [hp]; exact hu) b
    rw [hp] at h
    rw [Nat.or_comm, Nat.mul_comm b, ← h, Nat.add_comm]
  show IntKind.u64.wrap ((BitVec.ofInt 64 ((u : Nat) : Int) ||| BitVec.ofInt 64 ((b * 256 ^ j : Nat) : Int)).toNat : Int) = _
  rw [BitVec.toNat_or, e2, e3, e4, IntKind.wrap_u64]
  omega
/-- What number hands back. -/
def NumPostW (N : List Nat) (g n : Nat) (l : List UInt8) (w : World) (e : Ending) (w' : World) : Prop :=
  if l.length < n then e = .returned (.tuple #[.int .u64 0, .bool false]) ∧ w = w'
  else e = .returned (.tuple #[.int .u64 (lowV (l.take n) : Nat), .bool true]) ∧ RdrAt w' N g (l.drop n) ∧ Only [g] w w'
set_option maxRecDepth 100000 in
set_option maxHeartbeats 3200000 in
theorem number_w (w : World) (N : List Nat) (g n : Nat) (l : List UInt8) (hl : l.length ≤ 1099511627776) (hn : n ≤ 8) (h : RdrAt w N g l) :
    Calls Try.prog 45 #[.pointer (some ⟨g, 0, none⟩), .int .i64 n] w (NumPostW N g n l w) := by
  have HT := hide (take_w w N g n l hl (by omega) h)
  by_cases hlt : l.length < n
  · have HP := hide (fun e w' => show (e = Ending.returned (.tuple #[.int .u64 0, .bool false]) ∧ w = w') → NumPostW N g n l w e w' from fun h => by unfold NumPostW; rw [if_pos hlt]; exact h)
    unfold TakePostW at HT
    simp only [if_pos hlt] at HT
    clear h hlt
    go_enter Try.func45, Try.ntmps45
    go_wp2_with (go_at_call 60; refine HT.out.mono ?_; rintro e w1 ⟨rfl, rfl⟩)
    go_ret2
    exact HP.out _ _ ⟨rfl, rfl⟩
  · have HP := hide (fun e w' => show (e = Ending.returned (.tuple #[.int .u64 (lowV (l.take n) : Nat), .bool true]) ∧ RdrAt w' N g (l.drop n) ∧ Only [g] w w') → NumPostW N g n l w e w' from fun h => by unfold NumPostW; rw [if_neg hlt]; exact h)
    unfold TakePostW at HT
    simp only [if_neg hlt] at HT
    have HLE := hide (show n ≤ l.length by omega)
    have HN := hide hn
    obtain ⟨q, hq⟩ : ∃ q, q = l.take n := ⟨_, rfl⟩
    have HQ := hide (show q.length = n by rw [hq, List.length_take]; omega)
    rw [← hq] at HT HP
    clear h hlt hq
    go_enter Try.func45, Try.ntmps45
    go_wp2_with (go_at_call 60; refine HT.out.mono ?_; rintro e w1 ⟨G, O, cap, rfl, hr, ha, ho⟩; have HR := hide hr; have HA := hide ha; have HO := hide ho; clear hr ha ho)
    go_loopw [21, 8] (fun i u wr => ∃ j : Nat, j ≤ n ∧ i = .int .i64 j ∧ u = .int .u64 (lowV (q.take j) : Nat) ∧ Hid (wr = w1)) (fun i _ _ => n - (intOf i).toNat)
    case atStart => exact ⟨0, Nat.zero_le _, rfl, rfl, hide rfl⟩
    case round =>
      obtain ⟨j, hj, rfl, rfl, HW⟩ := hrel
      obtain rfl := HW.out
      by_cases hlt : j < n
      · have hltI : (j : Int) < n := by omega
        have hjq : j < q.length := by rw [HQ.out]; exact hlt
        obtain ⟨g2, o2, hA, _, hg, hcell⟩ := HR.out.at_.2.2.2 j (.int .u8 (q.getD j 0).toNat) (ints_get (byts_get (by simp [List.getElem?_eq_getElem hjq])))
        cases hA
        have HST := hide (lowV_take q j hjq)
        have HLT := hide (lowV_lt (q.take j))
        have HBB := hide (q.getD j 0).toNat_lt
        have HLE2 := hide (show (q.take j).length = j by rw [List.length_take]; omega)
        generalize (q.getD j 0).toNat = b at *
        generalize lowV (q.take j) = u at *
        clear hjq
        go_wp2_with fail
        refine ⟨⟨j + 1, by omega, by go_num, ?_, (by first | exact hide trivial | exact hide rfl)⟩, by simp [intOf]; omega⟩
        rw [HST.out, or_shift u b j (by have := HLT.out; rw [HLE2.out] at this; exact this) HBB.out (by have := HN.out; omega)]
      · have hge : ¬ (j : Int) < n := by omega
        have e : q.take j = q := List.take_of_length_le (by have := HQ.out; omega)
        rw [e]
        go_wp2_with fail
        go_ret2
        exact HP.out _ _ ⟨rfl, HA.out, HO.out⟩
end Go.Proofs.Ytfmfnfmhknlpbaa

/-
  Walks and plain words (texts SkyE, SkyH, RoP). No condition beyond those that each theorem states.
-/
import Derived.Test.YteoifokmbkpbnaaQ08
namespace Go.Proofs.Yteoifokmbkpbnaa
section
open Go.RowKit Go.Deep

structure TnW (w : World) (b : Nat) (s x : Int × Int) (A : Option Addr) (n cap : Nat) (tl : List Lg) (k : Nat) (v : Value) (wr : World) : Prop where
  rt : Blk wr w.heap.size 98 #[.int .i64 s.1, .int .i64 s.2, .slice A n cap]
  res : Blk wr (w.heap.size + 1) 98 #[.int .i64 0, .int .i64 0, .slice none 0 0]
  b8 : Blk wr b 98 #[.int .i64 x.1, .int .i64 x.2, v]
  own : wr.ownsRow (b + 1) 104 3 v k ((tl.take k).flatMap lgc)
  only : Only [] w wr
  lt : w.heap.size + 1 < b
theorem TnW.quiet {w : World} {b : Nat} {s x : Int × Int} {A : Option Addr} {n cap : Nat} {tl : List Lg} {k : Nat} {v : Value} {wr w' : World} (h : TnW w b s x A n cap tl k v wr) (ho : Only [] wr w') : TnW w b s x A n cap tl k v w' :=
  ⟨h.rt.only ho (by simp), h.res.only ho (by simp), h.b8.only ho (by simp), own_only h.own ho (by simp), h.only.trans ho, h.lt⟩
end
section

/-- The changes ahead of second t; the mast ahead of it. -/
def preV (m : List (Int × Int)) (s : Int × Int) (l : List Lg) : Nat → List (Int × Int)
  | 0 => []
  | t + 1 => chs m s l t
def lastV (m : List (Int × Int)) (s : Int × Int) (l : List Lg) : Nat → Int
  | 0 => -1
  | t + 1 => ((nearV m (atV s l t) : Nat) : Int)
theorem pre_same {m : List (Int × Int)} {s : Int × Int} {l : List Lg} {t : Nat} (h : ((nearV m (atV s l t) : Nat) : Int) = lastV m s l t) : preV m s l (t + 1) = preV m s l t := by
  cases t with
  | zero => exact absurd h (by rw [show lastV m s l 0 = -1 from rfl]; omega)
  | succ t => exact chs_same (by have h' : ((nearV m (atV s l (t + 1)) : Nat) : Int) = ((nearV m (atV s l t) : Nat) : Int) := h; omega)
theorem pre_new {m : List (Int × Int)} {s : Int × Int} {l : List Lg} {t : Nat} (h : ¬ ((nearV m (atV s l t) : Nat) : Int) = lastV m s l t) : preV m s l (t + 1) = preV m s l t ++ [((t : Int), ((nearV m (atV s l t) : Nat) : Int))] := by
  cases t with
  | zero => rfl
  | succ t => exact chs_new (by have h' : ¬ ((nearV m (atV s l (t + 1)) : Nat) : Int) = ((nearV m (atV s l t) : Nat) : Int) := h; omega)
theorem pre_len (m : List (Int × Int)) (s : Int × Int) (l : List Lg) (t : Nat) : (preV m s l t).length ≤ t := by
  cases t with
  | zero => exact Nat.le_refl _
  | succ t => exact chs_len m s l t

theorem chs_late {m : List (Int × Int)} {s : Int × Int} {l : List Lg} (hpos : ∀ i, i < l.length → 0 ≤ (l.getD i zg).2.2) : ∀ d, chs m s l (tot l l.length + d) = chs m s l (tot l l.length)
  | 0 => rfl
  | d + 1 => by
    show chs m s l (tot l l.length + d + 1) = _
    rw [chs_same (by rw [atV_end s l hpos (by omega), atV_end s l hpos (by omega)])]
    exact chs_late hpos d
theorem chs_min {m : List (Int × Int)} {s : Int × Int} {l : List Lg} (hpos : ∀ i, i < l.length → 0 ≤ (l.getD i zg).2.2) (u : Nat) : chs m s l (min u (tot l l.length)) = chs m s l u := by
  rcases Nat.lt_or_ge u (tot l l.length) with h | h
  · rw [Nat.min_eq_left (by omega)]
  · rw [Nat.min_eq_right h]
    have := chs_late (m := m) (s := s) hpos (u - tot l l.length)
    rw [← this, show tot l l.length + (u - tot l l.length) = u by omega]
end
section
open Go.RowKit Go.Deep

/-- An act: its kind, at, n, from. -/
abbrev Ac := Int × Int × Int × Int
def acC (a : Ac) : List Value := [.int .i64 a.1, .int .i64 a.2.1, .int .i64 a.2.2.1, .int .i64 a.2.2.2, .slice none 0 0]
theorem acC_len (a : Ac) : (acC a).length = 5 := rfl
def nearAt (m : List (Int × Int)) (rs : List Rt) (k t : Nat) : Nat := nearV m (atV (rs.getD k zr).1 (rs.getD k zr).2.2 t)
def chgB (m : List (Int × Int)) (rs : List Rt) (t k : Nat) : Bool := decide (¬ ((nearAt m rs k t : Nat) : Int) = lastV m (rs.getD k zr).1 (rs.getD k zr).2.2 t)
def moveV (m : List (Int × Int)) (rs : List Rt) (t k : Nat) : Ac := (6, (k : Int), 0, 8 * ((nearAt m rs k t : Nat) : Int) + k + 1)
def waitV : Ac := (5, 0, 1000, 0)
def hostsV (m : List (Int × Int)) (rs : List Rt) (t : Nat) : Nat → List Ac
  | 0 => []
  | k + 1 => hostsV m rs t k ++ (if chgB m rs t k = true then [moveV m rs t k] else [])
def wtV (t : Nat) : List Ac := if t = 0 then [] else [waitV]
def planK (m : List (Int × Int)) (rs : List Rt) : Nat → List Ac
  | 0 => []
  | t + 1 => (planK m rs t ++ wtV t) ++ hostsV m rs t rs.length
def partV (m : List (Int × Int)) (rs : List Rt) (t k : Nat) : List Ac := (planK m rs t ++ wtV t) ++ hostsV m rs t k
theorem part_start0 (m : List (Int × Int)) (rs : List Rt) : partV m rs 0 0 = planK m rs 0 := rfl
theorem part_start (m : List (Int × Int)) (rs : List Rt) (t : Nat) (h : 0 < t) : partV m rs t 0 = planK m rs t ++ [waitV] := by
  unfold partV wtV
  rw [if_neg (by omega)]
  exact List.append_nil _
theorem part_full (m : List (Int × Int)) (rs : List Rt) (t : Nat) : partV m rs t rs.length = planK m rs (t + 1) := rfl
theorem part_chg {m : List (Int × Int)} {rs : List Rt} {t k : Nat} (h : chgB m rs t k = true) : partV m rs t (k + 1) = partV m rs t k ++ [moveV m rs t k] := by
  unfold partV
  rw [hostsV, if_pos h, ← List.append_assoc]
theorem part_same {m : List (Int × Int)} {rs : List Rt} {t k : Nat} (h : chgB m rs t k = false) : partV m rs t (k + 1) = partV m rs t k := by
  unfold partV
  rw [hostsV, if_neg (by rw [h]; decide), List.append_nil]
theorem chg_zero (m : List (Int × Int)) (rs : List Rt) (k : Nat) : chgB m rs 0 k = true := by
  unfold chgB
  refine decide_eq_true ?_
  show ¬ ((nearAt m rs k 0 : Nat) : Int) = -1
  omega
theorem chg_succ (m : List (Int × Int)) (rs : List Rt) (t k : Nat) : chgB m rs (t + 1) k = decide (¬ nearAt m rs k (t + 1) = nearAt m rs k t) := by
  unfold chgB
  rw [show lastV m (rs.getD k zr).1 (rs.getD k zr).2.2 (t + 1) = ((nearAt m rs k t : Nat) : Int) from rfl]
  exact decide_eq_decide.2 (by omega)
theorem hosts_len (m : List (Int × Int)) (rs : List Rt) (t : Nat) : ∀ k, (hostsV m rs t k).length ≤ k
  | 0 => Nat.le_refl _
  | k + 1 => by
    have ih := hosts_len m rs t k
    rw [hostsV, List.length_append]
    split
    · simp; omega
    · simp; omega
theorem wt_len (t : Nat) : (wtV t).length ≤ 1 := by unfold wtV; split <;> simp
theorem plan_len (m : List (Int × Int)) (rs : List Rt) (hn : rs.length ≤ 8) : ∀ t, (planK m rs t).length ≤ t * 9
  | 0 => Nat.le_refl _
  | t + 1 => by
    have ih := plan_len m rs hn t
    have h1 := hosts_len m rs t rs.length
    have h2 := wt_len t
    rw [planK, List.length_append, List.length_append]
    omega
theorem part_len (m : List (Int × Int)) (rs : List Rt) (hn : rs.length ≤ 8) (t k : Nat) : (partV m rs t k).length ≤ t * 9 + 1 + k := by
  have ih := plan_len m rs hn t
  have h1 := hosts_len m rs t k
  have h2 := wt_len t
  unfold partV
  rw [List.length_append, List.length_append]
  omega
/-- The value v is a row of the call's own that reads as the acts L. -/
def OwnA (e : TypeId) (base : Nat) (v : Value) (L : List Ac) (w : World) : Prop := w.ownsRow base e 5 v L.length (L.flatMap acC)
theorem ownA_snoc {e : TypeId} {base : Nat} {v : Value} {L : List Ac} {x : Ac} {w : World} (h : w.ownsRow base e 5 v (L.length + 1) (L.flatMap acC ++ acC x)) : OwnA e base v (L ++ [x]) w := by
  unfold OwnA
  rw [List.length_append]
  exact own_snoc h
theorem ownA_nil (e : TypeId) (base : Nat) (w : World) : OwnA e base (.slice none 0 0) [] w := World.ownsRow_nil _ _ _ _
theorem ownA_form {e : TypeId} {base : Nat} {v : Value} {L : List Ac} {w : World} (h : OwnA e base v L w) : ∃ A c, v = .slice A L.length c ∧ L.length ≤ c ∧ c ≤ maxLen := own_form h
theorem ownA_rds {e : TypeId} {base : Nat} {v : Value} {L : List Ac} {w : World} {N : List Nat} (h : OwnA e base v L w) (hN : ∀ x ∈ N, x < base) : RdS 5 acC w N v L := (RdS.of_own acC_len (by omega) h hN).1
theorem info_act18 : (Try.prog.info? 68).map (fun i => (i.zero, i.size, i.bytes)) = some (some (.agg #[.int .i64 0, .int .i64 0, .int .i64 0, .int .i64 0, .slice none 0 0]), 5, 56) := by kernel_rfl
theorem info_actW : (Try.prog.info? 66).map (fun i => (i.zero, i.size, i.bytes)) = some (some (.agg #[.int .i64 0, .int .i64 0, .int .i64 0, .int .i64 0, .slice none 0 0]), 5, 56) := by kernel_rfl
end
end Go.Proofs.Yteoifokmbkpbnaa

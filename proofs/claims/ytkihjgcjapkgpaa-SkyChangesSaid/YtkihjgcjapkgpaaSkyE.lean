/-
  Contract of sky's Turned, by walking.
-/
import Derived.Test.YtkihjgcjapkgpaaSkyD
namespace Go.Proofs.Ytkihjgcjapkgpaa
open Go.RowKit Go.Deep

def turnG (q : Int) (g : Lg) : Lg := ((turnV (g.1, g.2.1) q).1, (turnV (g.1, g.2.1) q).2, g.2.2)
def turnL (q : Int) (l : List Lg) : List Lg := l.map (turnG q)

theorem turn_cases (q : Int) : (q % 4).toNat = 0 ∨ (q % 4).toNat = 1 ∨ (q % 4).toNat = 2 ∨ (q % 4).toNat = 3 := by omega
theorem cx_turn {d t : Value} {x y q : Int} (hd : Cx d x y) (ht : Cx t (turnV (1, 0) q).1 (turnV (1, 0) q).2) (hx : -20000000 ≤ x ∧ x ≤ 20000000) (hy : -20000000 ≤ y ∧ y ≤ 20000000) :
    ∃ e, (∀ w, (binOp .mul 86 d t).run Try.prog w = .ok e w) ∧ Cx e (turnV (x, y) q).1 (turnV (x, y) q).2 := by
  unfold turnV at ht ⊢
  rcases turn_cases q with h | h | h | h <;> rw [h] at ht ⊢ <;> simp only [turnN, turn1] at ht ⊢
  · obtain ⟨e, he, hc⟩ := cx_mul hd ht (by omega) (by omega) (by omega) (by omega) (by omega) (by omega)
    exact ⟨e, he, by have e1 : x * 1 - y * 0 = x := by omega
                     have e2 : x * 0 + y * 1 = y := by omega
                     rwa [e1, e2] at hc⟩
  · obtain ⟨e, he, hc⟩ := cx_mul hd ht (by omega) (by omega) (by omega) (by omega) (by omega) (by omega)
    exact ⟨e, he, by have e1 : x * -0 - y * 1 = -y := by omega
                     have e2 : x * 1 + y * -0 = x := by omega
                     rwa [e1, e2] at hc⟩
  · obtain ⟨e, he, hc⟩ := cx_mul hd ht (by omega) (by omega) (by omega) (by omega) (by omega) (by omega)
    exact ⟨e, he, by have e1 : x * -1 - y * -0 = -x := by omega
                     have e2 : x * -0 + y * -1 = -y := by omega
                     rwa [e1, e2] at hc⟩
  · obtain ⟨e, he, hc⟩ := cx_mul hd ht (by omega) (by omega) (by omega) (by omega) (by omega) (by omega)
    exact ⟨e, he, by have e1 : x * - -0 - y * -1 = - -y := by omega
                     have e2 : x * -1 + y * - -0 = -x := by omega
                     rwa [e1, e2] at hc⟩

theorem turn_bd {x y q B : Int} (hx : -B ≤ x ∧ x ≤ B) (hy : -B ≤ y ∧ y ≤ B) : (-B ≤ (turnV (x, y) q).1 ∧ (turnV (x, y) q).1 ≤ B) ∧ (-B ≤ (turnV (x, y) q).2 ∧ (turnV (x, y) q).2 ≤ B) := by
  unfold turnV
  rcases turn_cases q with h | h | h | h <;> rw [h] <;> simp only [turnN, turn1] <;> omega

theorem fi_one : FI 4607182418800017408 1 := ⟨false, 2 ^ 52, -52, by decide +kernel, Rep.of_flat (by decide) (by decide)⟩
theorem fi_neg : FI 13830554455654793216 (-1) := ⟨true, 2 ^ 52, -52, by decide +kernel, Rep.of_flat (by decide) (by decide)⟩

theorem Try.infoLeg : (Try.prog.info? 83).map (fun i => (i.zero, i.size, i.bytes)) = some (some (.agg #[.int .i64 0, .int .i64 0, .int .i64 0]), 3, 24) := by kernel_rfl

def RtPost (s : Int × Int) (l : List Lg) (w : World) (e : Ending) (w' : World) : Prop := ∃ v, e = .returned (.tuple #[.agg #[.int .i64 s.1, .int .i64 s.2, v], .int .i64 0]) ∧ RdS 3 lgc w' [] v l ∧ Only [] w w'

structure TnW (w : World) (b : Nat) (s x : Int × Int) (A : Option Addr) (n cap : Nat) (tl : List Lg) (k : Nat) (v : Value) (wr : World) : Prop where
  rt : Blk wr w.heap.size 41 #[.int .i64 s.1, .int .i64 s.2, .slice A n cap]
  res : Blk wr (w.heap.size + 1) 41 #[.int .i64 0, .int .i64 0, .slice none 0 0]
  b8 : Blk wr b 41 #[.int .i64 x.1, .int .i64 x.2, v]
  own : wr.ownsRow (b + 1) 83 3 v k ((tl.take k).flatMap lgc)
  only : Only [] w wr
  lt : w.heap.size + 1 < b
theorem TnW.quiet {w : World} {b : Nat} {s x : Int × Int} {A : Option Addr} {n cap : Nat} {tl : List Lg} {k : Nat} {v : Value} {wr w' : World} (h : TnW w b s x A n cap tl k v wr) (ho : Only [] wr w') : TnW w b s x A n cap tl k v w' :=
  ⟨h.rt.only ho (by simp), h.res.only ho (by simp), h.b8.only ho (by simp), own_only h.own ho (by simp), h.only.trans ho, h.lt⟩
theorem TnW.grew {w : World} {b : Nat} {s x : Int × Int} {A : Option Addr} {n cap : Nat} {tl : List Lg} {k : Nat} {v v1 : Value} {g : Lg} {wr w' : World} (h : TnW w b s x A n cap tl k v wr) (hg : wr.grownBy w' v.ownBlock) (ho : w'.ownsRow (b + 1) 83 3 v1 (k + 1) ((tl.take k).flatMap lgc ++ lgc g)) (ht : tl.take (k + 1) = tl.take k ++ [g]) :
    TnW w b s x A n cap tl (k + 1) v1 (w'.setCell ⟨b, 2, none⟩ v1) := by
  have hne : ∀ j, v.ownBlock = some j → b + 1 ≤ j := fun j hj => own_block_ge h.own hj
  have hlt := h.lt
  have h1 := (h.rt.grown hg (fun e => by have := hne _ e.symm; omega)).far (p := ⟨b, 2, none⟩) (by simp; omega) v1
  have h2 := (h.res.grown hg (fun e => by have := hne _ e.symm; omega)).far (p := ⟨b, 2, none⟩) (by simp; omega) v1
  have h3 := (h.b8.grown hg (fun e => by have := hne _ e.symm; omega)).set_ 2 v1
  refine ⟨h1, h2, h3, own_only (S := [b]) (by rw [ht]; exact own_snoc ho) ((Only.refl _ _).setCell (.inl (by simp)) _) (by simp), (h.only.grown hg (fun j hj => .inr (by have := hne j hj; omega))).setCell (.inr (by simp; omega)) _, h.lt⟩

set_option maxRecDepth 100000 in
set_option maxHeartbeats 1600000 in
theorem turned_bad (w : World) (N : List Nat) (v : Value) (s : Int × Int) (l : List Lg) (q : Int) (hv : RdS 3 lgc w N v l) (hl : l.length ≤ 1000) (hfit : ∀ g ∈ l, Fit3 g) (hsf : Fit s) (hr : routesV s l = false) :
    Calls Try.prog 21 #[.agg #[.int .i64 s.1, .int .i64 s.2, v], .int .i64 q] w fun e w' => e = .returned (.tuple #[.agg #[.int .i64 0, .int .i64 0, .slice none 0 0], .int .i64 3]) ∧ Only [] w w' := by
  have HRR := hide (show ∀ W, Only [] w W → _ from fun W ho => route_right W N v s l (hv.only ho (by simp)) hl hfit hsf)
  obtain ⟨A, cap, rfl, hc, hm⟩ := hv.form
  generalize l.length = n at *
  have HR := hide ((Blk.new (w.alloc (.cells #[.int .i64 s.1, .int .i64 s.2, .slice A n cap] 41)) 41 #[.int .i64 0, .int .i64 0, .slice none 0 0]))
  rw [World.size_alloc] at HR
  have HO := hide (((Only.refl [] w).alloc (.cells #[.int .i64 s.1, .int .i64 s.2, .slice A n cap] 41)).alloc (.cells #[.int .i64 0, .int .i64 0, .slice none 0 0] 41))
  have HRV := hide hr
  clear hv hfit hsf hl hr
  go_enter Try.func21, Try.ntmps21
  go_wp2_with (go_at_call 23; refine (HRR.out _ HO.out).mono ?_; rintro e w1 ⟨rfl, ho⟩; have HO1 := hide (HO.out.trans ho); have hR1 := HR.out.only ho (by simp); have r0 := hR1.cell 0; have r1 := hR1.cell 1; have r2 := hR1.cell 2; have rz := hR1.frozen; simp at r0 r1 r2; rw [HRV.out]; clear ho hR1)
  refine bodyPost_ret (v := .tuple #[.agg #[.int .i64 0, .int .i64 0, .slice none 0 0], .int .i64 3]) ?_ rfl ⟨rfl, ?_⟩
  · simp [results, Try.results21, go_sem, r0, r1, r2]
  · exact ((HO1.out.setCell (p := ⟨w.heap.size + 1, 0, none⟩) (.inr (by simp)) _).setCell (p := ⟨w.heap.size + 1, 1, none⟩) (.inr (by simp)) _).setCell (p := ⟨w.heap.size + 1, 2, none⟩) (.inr (by simp)) _
end Go.Proofs.Ytkihjgcjapkgpaa

/-
  Contracts of the ring's functions, by walking.
-/
import Derived.Test.YtokpdhcgclfmnaaChecked
import Derived.Test.YtokpdhcgclfmnaaMem
import Derived.BigQuiet
import Derived.RegionTactic
import Derived.BigRegion
import Derived.Outline
import Derived.StillTailTactics
import Derived.Deep.RegionHeld3
import Derived.Deep.DeepFit
import Derived.Deep.DeepMust
import Derived.Deep.OwnRows
namespace Go.Proofs.Ytokpdhcgclfmnaa
open Go.RowKit Go.Deep

theorem ring_at (b n : Nat) (ra : Option Addr) (f i : Int) (w : World) (h0 : w.cell? ⟨b, 0, none⟩ = some (.slice ra n n)) (h1 : w.cell? ⟨b, 1, none⟩ = some (.int .i64 f))
   (hf0 : 0 ≤ f) (hf1 : f ≤ 4096) (hi0 : 0 ≤ i) (hi1 : i ≤ 4096) (hn : 1 ≤ n) (hn1 : n ≤ 4096) :
    Calls Try.prog 35 #[.pointer (some ⟨b, 0, none⟩), .int .i64 i] w fun e w' => e = .returned (.int .i64 ((f + i) % n)) ∧ ∃ k, w' = w.drewN k := by
  have hne : ((n : Int) == 0) = false := by rw [beq_eq_false_iff_ne]; omega
  go_enter Try.func35, Try.ntmps35
  go_wp2
  go_quiet (fail)
  go_wp2
  go_ret
  exact ⟨rfl, _, rfl⟩


def RingAt (w : World) (b g n : Nat) (xs : List Int) (f c : Nat) : Prop :=
  Blk w b 59 #[.slice (some ⟨g, 0, none⟩) n n, .int .i64 f, .int .i64 c] ∧ Blk w g 33 (xs.map (Value.int .u64)).toArray ∧ xs.length = n ∧ f < n ∧ c ≤ n ∧ n ≤ 4096

theorem RingAt.only {S : List Nat} {w w' : World} {b g n : Nat} {xs : List Int} {f c : Nat} (h : RingAt w b g n xs f c) (ho : Only S w w') (hb : b ∉ S) (hg : g ∉ S) : RingAt w' b g n xs f c :=
  ⟨h.1.only ho hb, h.2.1.only ho hg, h.2.2⟩

theorem set_ints (xs : List Int) (i : Nat) (v : Int) : ((xs.map (Value.int .u64)).toArray).setIfInBounds i (.int .u64 v) = ((xs.set i v).map (Value.int .u64)).toArray := by
  simp [List.map_set]

theorem ring_nil_pop (w : World) :
    Calls Try.prog 16 #[.pointer none] w fun e w' => e = .returned (.tuple #[.int .u64 0, .bool false]) ∧ Only [] w w' := by
  go_enter Try.func16, Try.ntmps16
  go_wp2
  go_ret2
  exact ⟨rfl, (Only.refl _ _).alloc _⟩

theorem ring_nil_back (w : World) :
    Calls Try.prog 17 #[.pointer none] w fun e w' => e = .returned (.tuple #[.int .u64 0, .bool false]) ∧ Only [] w w' := by
  go_enter Try.func17, Try.ntmps17
  go_wp2
  go_ret2
  exact ⟨rfl, (Only.refl _ _).alloc _⟩

theorem ring_nil_push (x : Int) (w : World) :
    Calls Try.prog 15 #[.pointer none, .int .u64 x] w fun e w' => e = .returned (.tuple #[.int .u64 0, .bool false]) ∧ Only [] w w' := by
  go_enter Try.func15, Try.ntmps15
  go_wp2
  go_ret2
  exact ⟨rfl, (Only.refl _ _).alloc _⟩

theorem ring_nil_len (w : World) :
    Calls Try.prog 19 #[.pointer none] w fun e w' => e = .returned (.int .i64 0) ∧ w = w' := by
  go_enter Try.func19, Try.ntmps19
  go_wp2
  go_ret
  exact ⟨rfl, rfl⟩

theorem ring_nil_room (w : World) :
    Calls Try.prog 20 #[.pointer none] w fun e w' => e = .returned (.int .i64 0) ∧ w = w' := by
  go_enter Try.func20, Try.ntmps20
  go_wp2
  go_ret
  exact ⟨rfl, rfl⟩

theorem ring_nil_clear (w : World) :
    Calls Try.prog 18 #[.pointer none] w fun e w' => e = .returned (.int .i64 0) ∧ w = w' := by
  go_enter Try.func18, Try.ntmps18
  go_wp2
  go_ret
  exact ⟨rfl, rfl⟩

theorem ring_nil_all (w : World) :
    Calls Try.prog 22 #[.pointer none] w fun e w' => e = .returned (.slice none 0 0) ∧ w = w' := by
  go_enter Try.func22, Try.ntmps22
  go_wp2
  go_ret
  exact ⟨rfl, rfl⟩

theorem ring_len (w : World) (b g n : Nat) (xs : List Int) (f c : Nat) (hr : RingAt w b g n xs f c) :
    Calls Try.prog 19 #[.pointer (some ⟨b, 0, none⟩)] w fun e w' => e = .returned (.int .i64 c) ∧ w = w' := by
  have h2 := hr.1.cell 2
  simp at h2
  go_enter Try.func19, Try.ntmps19
  go_wp2
  go_ret
  exact ⟨rfl, rfl⟩

theorem ring_room (w : World) (b g n : Nat) (xs : List Int) (f c : Nat) (hr : RingAt w b g n xs f c) :
    Calls Try.prog 20 #[.pointer (some ⟨b, 0, none⟩)] w fun e w' => e = .returned (.int .i64 n) ∧ w = w' := by
  have h2 := hr.1.cell 0
  simp at h2
  go_enter Try.func20, Try.ntmps20
  go_wp2
  go_ret
  exact ⟨rfl, rfl⟩

theorem al_ : ∀ (W : World) (n : Nat) (o : Obj), (W.drewN n).alloc o = (W.alloc o).drewN n := fun _ _ _ => rfl
theorem sl_ : ∀ (W : World) (n : Nat) (a : Addr) (v : Value), (W.drewN n).setCell a v = (W.setCell a v).drewN n := fun _ _ _ _ => rfl
theorem cell_int {w : World} {g : Nat} {t : TypeId} {k : IntKind} {xs : List Int} (hg : Blk w g t (xs.map (Value.int k)).toArray) {i : Nat} {x : Int} (h : xs[i]? = some x) : w.cell? ⟨g, i, none⟩ = some (.int k x) := by
  rw [hg.cell]; simp [h]

theorem ring_pop (w : World) (b g n : Nat) (xs : List Int) (f c : Nat) (x : Int) (hr : RingAt w b g n xs f c) (hc1 : 1 ≤ c) (hx : xs[f]? = some x) :
    Calls Try.prog 16 #[.pointer (some ⟨b, 0, none⟩)] w fun e w' => e = .returned (.tuple #[.int .u64 x, .bool true]) ∧ RingAt w' b g n (xs.set f 0) ((f + 1) % n) (c - 1) ∧ Only [b, g] w w' := by
  have hcx := cell_int hr.2.1 hx
  obtain ⟨hb, hg, hl, hf, hc, hn1⟩ := hr
  have hbg := hb.ne_ hg (by decide)
  have hgb := Ne.symm hbg
  have h0 := hb.cell 0
  have h1 := hb.cell 1
  have h2 := hb.cell 2
  simp at h0 h1 h2
  have zb := hb.frozen
  have zg := hg.frozen
  have bz := hb.lt
  have gz := hg.lt
  have HB := hide hb
  have HG := hide hg
  have HL := hide hl
  clear hb hg hl
  have al := al_
  have sl := sl_
  have hne : ((c : Int) == 0) = false := by rw [beq_eq_false_iff_ne]; omega
  have hlt : (f : Int) < n := by omega
  clear hx
  go_enter Try.func16, Try.ntmps16
  go_wp2_with fail
  go_quiet (fail)
  go_wp2_with fail
  go_region
  go_wp2_with (go_at_call 35; refine (ring_at b n (some ⟨g, 0, none⟩) f 1 _ ?_ ?_ (by omega) (by omega) (by omega) (by omega) (by omega) (by omega)).mono ?_; (go_simp); (go_simp); rintro e w' ⟨rfl, k, rfl⟩)
  go_ret2
  have e1 : (((f + 1) % n : Nat) : Int) = ((f : Int) + 1) % n := by push_cast; rfl
  have e2 : ((c - 1 : Nat) : Int) = (c : Int) - 1 := by omega
  refine ⟨rfl, ⟨?_, ?_, by simpa using HL.out, Nat.mod_lt _ (by omega), by omega, hn1⟩, ?_⟩
  · rw [e1, e2]
    have h := ((((HB.out.far (p := ⟨g, f, none⟩) hbg (.int .u64 0)).set_ 1 (.int .i64 ((f + 1) % n))).set_ 2 (.int .i64 (c - 1))).alloc (Obj.cells #[.int .u64 0] 33)).drewN (nq + 1 + k)
    simpa using h
  · have h := ((((HG.out.set_ f (.int .u64 0)).far (p := ⟨b, 1, none⟩) hgb (.int .i64 ((f + 1) % n))).far (p := ⟨b, 2, none⟩) hgb (.int .i64 (c - 1))).alloc (Obj.cells #[.int .u64 0] 33)).drewN (nq + 1 + k)
    rw [set_ints] at h
    exact h
  · exact (((((Only.refl _ _).setCell (.inl (by simp)) _).setCell (.inl (by simp)) _).setCell (.inl (by simp)) _).alloc _).drewN _

theorem ring_back (w : World) (b g n : Nat) (xs : List Int) (f c : Nat) (x : Int) (hr : RingAt w b g n xs f c) (hc1 : 1 ≤ c) (hx : xs[(f + (c - 1)) % n]? = some x) :
    Calls Try.prog 17 #[.pointer (some ⟨b, 0, none⟩)] w fun e w' => e = .returned (.tuple #[.int .u64 x, .bool true]) ∧ RingAt w' b g n (xs.set ((f + (c - 1)) % n) 0) f (c - 1) ∧ Only [b, g] w w' := by
  have hk : (f + (c - 1)) % n < n := Nat.mod_lt _ (by have := hr.2.2.2.1; omega)
  obtain ⟨q, hq⟩ : ∃ q, q = (f + (c - 1)) % n := ⟨_, rfl⟩
  rw [← hq] at hx hk ⊢
  have hcx := cell_int hr.2.1 hx
  obtain ⟨hb, hg, hl, hf, hc, hn1⟩ := hr
  have hbg := hb.ne_ hg (by decide)
  have hgb := Ne.symm hbg
  have h0 := hb.cell 0
  have h1 := hb.cell 1
  have h2 := hb.cell 2
  simp at h0 h1 h2
  have zb := hb.frozen
  have zg := hg.frozen
  have bz := hb.lt
  have gz := hg.lt
  have HB := hide hb
  have HG := hide hg
  have HL := hide hl
  clear hb hg hl
  have al := al_
  have sl := sl_
  have hne : ((c : Int) == 0) = false := by rw [beq_eq_false_iff_ne]; omega
  have EQ := hide (show ((f : Int) + ((c : Int) - 1)) % n = (q : Int) by rw [hq]; push_cast; congr 1; omega)
  clear hx hq
  go_enter Try.func17, Try.ntmps17
  go_wp2_with (go_at_call 35; refine (ring_at b n (some ⟨g, 0, none⟩) f (c - 1) _ ?_ ?_ (by omega) (by omega) (by omega) (by omega) (by omega) (by omega)).mono ?_; (go_simp); (go_simp); rw [EQ.out]; rintro e w' ⟨rfl, k, rfl⟩)
  go_region
  go_wp2
  go_ret2
  have e2 : ((c - 1 : Nat) : Int) = (c : Int) - 1 := by omega
  refine ⟨rfl, ⟨?_, ?_, by simpa using HL.out, hf, by omega, hn1⟩, ?_⟩
  · rw [e2]
    have h := (((HB.out.far (p := ⟨g, q, none⟩) hbg (.int .u64 0)).set_ 2 (.int .i64 (c - 1))).alloc (Obj.cells #[.int .u64 0] 33)).drewN (k + 1)
    simpa using h
  · have h := (((HG.out.set_ q (.int .u64 0)).far (p := ⟨b, 2, none⟩) hgb (.int .i64 (c - 1))).alloc (Obj.cells #[.int .u64 0] 33)).drewN (k + 1)
    rw [set_ints] at h
    exact h
  · exact ((((Only.refl _ _).setCell (.inl (by simp)) _).setCell (.inl (by simp)) _).alloc _).drewN _

theorem ring_push (w : World) (b g n : Nat) (xs : List Int) (f c : Nat) (x : Int) (hr : RingAt w b g n xs f c) (hcn : c < n) :
    Calls Try.prog 15 #[.pointer (some ⟨b, 0, none⟩), .int .u64 x] w fun e w' => e = .returned (.tuple #[.int .u64 0, .bool false]) ∧ RingAt w' b g n (xs.set ((f + c) % n) x) f (c + 1) ∧ Only [b, g] w w' := by
  have hk : (f + c) % n < n := Nat.mod_lt _ (by have := hr.2.2.2.1; omega)
  obtain ⟨q, hq⟩ : ∃ q, q = (f + c) % n := ⟨_, rfl⟩
  rw [← hq] at hk ⊢
  obtain ⟨y, hy⟩ : ∃ y, xs[q]? = some y := ⟨xs[q]'(by rw [hr.2.2.1]; exact hk), List.getElem?_eq_getElem _⟩
  have hcx := cell_int hr.2.1 hy
  obtain ⟨hb, hg, hl, hf, hc, hn1⟩ := hr
  have hbg := hb.ne_ hg (by decide)
  have hgb := Ne.symm hbg
  have h0 := hb.cell 0
  have h1 := hb.cell 1
  have h2 := hb.cell 2
  simp at h0 h1 h2
  have zb := hb.frozen
  have zg := hg.frozen
  have bz := hb.lt
  have gz := hg.lt
  have HB := hide hb
  have HG := hide hg
  have HL := hide hl
  clear hb hg hl
  have al := al_
  have sl := sl_
  have hne : ((n : Int) == 0) = false := by rw [beq_eq_false_iff_ne]; omega
  have hne2 : ((c : Int) == n) = false := by rw [beq_eq_false_iff_ne]; omega
  have EQ := hide (show ((f : Int) + (c : Int)) % n = (q : Int) by rw [hq]; push_cast; rfl)
  have hk1 : (q : Int) < n := by omega
  clear hy hq
  go_enter Try.func15, Try.ntmps15
  go_wp2_with fail
  go_region
  go_wp2_with fail
  go_region_with (go_at_call 35; refine (ring_at b n (some ⟨g, 0, none⟩) f c _ ?_ ?_ (by omega) (by omega) (by omega) (by omega) (by omega) (by omega)).mono ?_; (go_simp); (go_simp); rw [EQ.out]; rintro e w' ⟨rfl, k, rfl⟩)
  all_goals
    go_wp2_with fail
    go_ret2
    have e2 : ((c + 1 : Nat) : Int) = (c : Int) + 1 := by omega
    refine ⟨rfl, ⟨?_, ?_, by simpa using HL.out, hf, by omega, hn1⟩, ?_⟩
    · rw [e2]
      have h := (((HB.out.far (p := ⟨g, q, none⟩) hbg (.int .u64 x)).set_ 2 (.int .i64 (c + 1))).alloc (Obj.cells #[.int .u64 0] 33))
      simpa using h.drewN _
    · have h := (((HG.out.set_ q (.int .u64 x)).far (p := ⟨b, 2, none⟩) hgb (.int .i64 (c + 1))).alloc (Obj.cells #[.int .u64 0] 33))
      rw [set_ints] at h
      exact h.drewN _
    · exact ((((Only.refl _ _).setCell (.inl (by simp)) _).setCell (.inl (by simp)) _).alloc _).drewN _

theorem ring_push_full (w : World) (b g n : Nat) (xs : List Int) (f c : Nat) (x y : Int) (hr : RingAt w b g n xs f c) (hcn : c = n) (hy : xs[f]? = some y) :
    Calls Try.prog 15 #[.pointer (some ⟨b, 0, none⟩), .int .u64 x] w fun e w' => e = .returned (.tuple #[.int .u64 y, .bool true]) ∧
      RingAt w' b g n ((xs.set f 0).set (((f + 1) % n + (c - 1)) % n) x) ((f + 1) % n) c ∧ Only [b, g] w w' := by
  have hr0 := hide hr
  obtain ⟨hb, hg, hl, hf, hc, hn1⟩ := hr
  have hbg := hb.ne_ hg (by decide)
  have hgb := Ne.symm hbg
  have h0 := hb.cell 0
  have h1 := hb.cell 1
  have h2 := hb.cell 2
  simp at h0 h1 h2
  have zb := hb.frozen
  have zg := hg.frozen
  have bz := hb.lt
  have gz := hg.lt
  have HB := hide hb
  have HG := hide hg
  have HL := hide hl
  clear hb hg hl
  have al := al_
  have sl := sl_
  have hne : ((n : Int) == 0) = false := by rw [beq_eq_false_iff_ne]; omega
  have hne2 : ((c : Int) == n) = true := by rw [beq_iff_eq]; omega
  have HY := hide hy
  have hc1 : 1 ≤ c := by omega
  have hf1 : (f + 1) % n < n := Nat.mod_lt _ (by omega)
  obtain ⟨p, hp⟩ : ∃ p, p = (f + 1) % n := ⟨_, rfl⟩
  rw [← hp] at hf1 ⊢
  have HP := hide hp
  clear hp
  have hk : (p + (c - 1)) % n < n := Nat.mod_lt _ (by omega)
  obtain ⟨q, hq⟩ : ∃ q, q = (p + (c - 1)) % n := ⟨_, rfl⟩
  rw [← hq] at hk ⊢
  have EQ := hide (show ((p : Int) + ((c : Int) - 1)) % n = (q : Int) by rw [hq]; push_cast; congr 1; omega)
  clear hq
  have EC := hide (show ((c - 1 : Nat) : Int) = (c : Int) - 1 by omega)
  clear hy hcn
  go_enter Try.func15, Try.ntmps15
  go_wp2_with fail
  go_region
  go_wp2_with (go_at_call 16; refine (ring_pop _ b g n xs f c y (hr0.out.only ((((Only.refl [] w).alloc _)).drew) (by simp) (by simp)) (by omega) HY.out).mono ?_; rintro e w1 ⟨rfl, hr1, ho1⟩)
  have ho : Only [b, g] w w1 := (((Only.refl [b, g] w).alloc _).drew).trans ho1
  clear ho1 h0 h1 h2 bz gz HB HG HL zb zg
  rw [← HP.out] at hr1
  obtain ⟨y', hy'⟩ : ∃ y, (xs.set f 0)[q]? = some y := ⟨(xs.set f 0)[q]'(by rw [hr1.2.2.1]; exact hk), List.getElem?_eq_getElem _⟩
  have hcx := cell_int hr1.2.1 hy'
  clear hy'
  obtain ⟨hb, hg, hl, -, -, -⟩ := hr1
  have h0 := hb.cell 0
  have h1 := hb.cell 1
  have h2 := hb.cell 2
  simp at h0 h1 h2
  rw [EC.out] at h2 hb
  have zb := hb.frozen
  have zg := hg.frozen
  have bz := hb.lt
  have gz := hg.lt
  have HB := hide hb
  have HG := hide hg
  have HL := hide hl
  have HO := hide ho
  clear hb hg hl ho
  have hk1 : (q : Int) < n := by omega
  go_wp2_with fail
  go_region_with (go_at_call 35; refine (ring_at b n (some ⟨g, 0, none⟩) p (c - 1) _ ?_ ?_ (by omega) (by omega) (by omega) (by omega) (by omega) (by omega)).mono ?_; (go_simp); (go_simp); rw [EQ.out]; rintro e w' ⟨rfl, k, rfl⟩)
  all_goals
    go_wp2_with fail
    go_ret2
    refine ⟨rfl, ⟨?_, ?_, by simpa using HL.out, hf1, by omega, hn1⟩, ?_⟩
    · have h := ((HB.out.far (p := ⟨g, q, none⟩) hbg (.int .u64 x)).set_ 2 (.int .i64 c))
      simpa using h.drewN _
    · have h := ((HG.out.set_ q (.int .u64 x)).far (p := ⟨b, 2, none⟩) hgb (.int .i64 c))
      rw [set_ints] at h
      exact h.drewN _
    · exact HO.out.trans ((((Only.refl _ _).setCell (.inl (by simp)) _).setCell (.inl (by simp)) _).drewN _)
end Go.Proofs.Ytokpdhcgclfmnaa

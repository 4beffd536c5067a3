/-
  WindowTakes: whatever counters come, each code, the top, and how many are missing, are the chapter's; a clone goes on by itself. Proved for every input; no condition.
-/
import Derived.Test.YtokpdhcgclfmnaaRows
import Derived.Test.YtokpdhcgclfmnaaWinNever
namespace Go.Proofs.Ytokpdhcgclfmnaa
open Go.RowKit Go.Deep Go.ChangeShapes Go.WideShapes Go.ChangeAt

theorem Rd.more {w : World} {N N' : List Nat} {v : Value} {xs : List Value} (h : Rd w N v xs) (hs : ∀ x ∈ N', x ∈ N ∨ w.heap.size ≤ x) : Rd w N' v xs := by
  obtain ⟨A, cap, hv, hc, hm, h⟩ := h
  refine ⟨A, cap, hv, hc, hm, ?_⟩
  rcases h with h | ⟨g, o, hA, hg, hl, hcell⟩
  · exact .inl h
  · exact .inr ⟨g, o, hA, fun hh => (hs g hh).elim hg (by omega), hl, hcell⟩

/-- The reference's window in the variable M. -/
def RVar (w : World) (N : List Nat) (M : Nat) (L : List Nat) : Prop := ∃ s, Blk w M 52 #[s] ∧ Rd w N s (ints .u64 (nats L))
theorem RVar.only {S N : List Nat} {w w' : World} {M : Nat} {L : List Nat} (h : RVar w N M L) (ho : Only S w w') (hs : ∀ x ∈ S, x ∈ N) (hM : M ∉ S) : RVar w' N M L := by
  obtain ⟨s, h1, h2⟩ := h
  exact ⟨s, h1.only ho hM, h2.only ho hs⟩
theorem RVar.more {N N' : List Nat} {w : World} {M : Nat} {L : List Nat} (h : RVar w N M L) (hs : ∀ x ∈ N', x ∈ N ∨ w.heap.size ≤ x) : RVar w N' M L := by
  obtain ⟨s, h1, h2⟩ := h
  exact ⟨s, h1, h2.more hs⟩
theorem RVar.lt {N : List Nat} {w : World} {M : Nat} {L : List Nat} (h : RVar w N M L) : M < w.heap.size := by
  obtain ⟨s, h1, _⟩ := h
  exact h1.lt

theorem WinSet.ne_var {w : World} {b M : Nat} {L Lm N : List Nat} (h : WinSet w b L) (hm : RVar w N M Lm) : b ≠ M := by
  obtain ⟨B, ⟨ws, h, _⟩, _⟩ := h
  obtain ⟨s, h2, _⟩ := hm
  exact h.1.ne_ h2 (by decide)
theorem RVar.set {N : List Nat} {w : World} {M : Nat} {L L' : List Nat} {s' : Value} (h : RVar w N M L) (hr : Rd w N s' (ints .u64 (nats L'))) (hM : M ∈ N) : RVar (w.setCell ⟨M, 0, none⟩ s') N M L' := by
  obtain ⟨s, h1, _⟩ := h
  exact ⟨s', by simpa using h1.set_ 0 s', hr.only ((Only.refl [M] w).setCell (.inl (by simp)) _) (by simpa using hM)⟩

/-- What holds in the loops: the window b took L, the reference's window in M is Lm, the one in W is LO, the clone (if there is one) took LO. -/
structure TakesW (w1 : World) (b M W k : Nat) (L Lm LO : List Nat) (ob : Option Nat) (wr : World) : Prop where
  win : WinSet wr b L
  len : Lm.length ≤ k
  lenO : LO.length ≤ k
  m : RVar wr (ob.toList ++ [b, M, W]) M Lm
  was : RVar wr (ob.toList ++ [b, M, W]) W LO
  old : ∀ b2, ob = some b2 → WinSet wr b2 LO ∧ b2 ∉ [b, M, W] ∧ w1.heap.size ≤ b2
  ne : b ≠ M ∧ b ≠ W ∧ M ≠ W
  only : Only [b, M, W] w1 wr

theorem TakesW.quiet {w1 wr w' : World} {b M W k : Nat} {L Lm LO : List Nat} {ob : Option Nat} (h : TakesW w1 b M W k L Lm LO ob wr) (ho : Only [] wr w') : TakesW w1 b M W k L Lm LO ob w' :=
  ⟨h.win.only ho (by simp), h.len, h.lenO, h.m.only ho (by simp) (by simp), h.was.only ho (by simp) (by simp), fun b2 hb => ⟨(h.old b2 hb).1.only ho (by simp), (h.old b2 hb).2⟩, h.ne, h.only.trans (ho.mono (by simp))⟩
theorem TakesW.took {w1 wr w' : World} {b M W k : Nat} {L L' Lm LO : List Nat} {ob : Option Nat} (h : TakesW w1 b M W k L Lm LO ob wr) (hw : WinSet w' b L') (ho : Only [b] wr w') : TakesW w1 b M W k L' Lm LO ob w' := by
  obtain ⟨n1, n2, n3⟩ := h.ne
  refine ⟨hw, h.len, h.lenO, h.m.only ho (by simp) (by simpa using n1.symm), h.was.only ho (by simp) (by simpa using n2.symm), fun b2 hb => ?_, h.ne, h.only.trans (ho.mono (by simp))⟩
  obtain ⟨h1, h2, h3⟩ := h.old b2 hb
  refine ⟨h1.only ho ?_, h2, h3⟩
  simp at h2 ⊢
  exact h2.1
theorem TakesW.grew {w1 wr : World} {b M W k : Nat} {L Lm Lm' LO : List Nat} {ob : Option Nat} {s' : Value} (h : TakesW w1 b M W k L Lm LO ob wr) (hr : Rd wr (ob.toList ++ [b, M, W]) s' (ints .u64 (nats Lm'))) (hk : Lm'.length ≤ k + 1) :
    TakesW w1 b M W (k + 1) L Lm' LO ob (wr.setCell ⟨M, 0, none⟩ s') := by
  obtain ⟨n1, n2, n3⟩ := h.ne
  have ho : Only [M] wr (wr.setCell ⟨M, 0, none⟩ s') := (Only.refl [M] wr).setCell (.inl (by simp)) _
  refine ⟨h.win.only ho (by simpa using n1), hk, by have := h.lenO; omega, h.m.set hr (by simp), h.was.only ho (by simp) (by simpa using n3.symm), fun b2 hb => ?_, h.ne, h.only.trans (ho.mono (by simp))⟩
  obtain ⟨h1, h2, h3⟩ := h.old b2 hb
  refine ⟨h1.only ho ?_, h2, h3⟩
  simp at h2 ⊢
  exact h2.2.1
theorem TakesW.next {w1 wr : World} {b M W k : Nat} {L Lm LO : List Nat} {ob : Option Nat} (h : TakesW w1 b M W k L Lm LO ob wr) : TakesW w1 b M W (k + 1) L Lm LO ob wr :=
  ⟨h.win, by have := h.len; omega, by have := h.lenO; omega, h.m, h.was, h.old, h.ne, h.only⟩
/-- The clone is made, and the document's window is kept beside it. -/
theorem TakesW.cloned {w1 wr w' : World} {b M W k b2 : Nat} {L LO : List Nat} {ob : Option Nat} {s : Value} (h : TakesW w1 b M W k L L LO ob wr) (hw : WinSet w' b2 L) (ho : Only [] wr w') (hb : wr.heap.size ≤ b2)
    (hs : wr.cell? ⟨M, 0, none⟩ = some s) : TakesW w1 b M W k L L L (some b2) (w'.setCell ⟨W, 0, none⟩ s) := by
  obtain ⟨n1, n2, n3⟩ := h.ne
  have hM := h.m.lt
  have hW := h.was.lt
  have hB := h.win.lt
  have h' := h.quiet ho
  have hs' : Rd wr (ob.toList ++ [b, M, W]) s (ints .u64 (nats L)) := by
    obtain ⟨s0, e1, e2⟩ := h.m
    have := e1.cell 0
    rw [hs] at this
    simp at this
    rw [this]; exact e2
  have ho2 : Only [W] w' (w'.setCell ⟨W, 0, none⟩ s) := (Only.refl [W] w').setCell (.inl (by simp)) _
  have hmem : ∀ x ∈ (some b2).toList ++ [b, M, W], x ∈ ob.toList ++ [b, M, W] ∨ wr.heap.size ≤ x := by
    intro x hx
    rcases List.mem_append.1 hx with hx | hx
    · simp at hx; right; omega
    · left; exact List.mem_append_right _ hx
  have hm2 := (h.m.more hmem).only ho (by simp) (by simp)
  have hr2 := (hs'.more hmem).only ho (by simp)
  have hw2 := (h.was.more hmem).only ho (by simp) (by simp)
  refine ⟨h'.win.only ho2 (by simpa using n2), h.len, h.len, hm2.only ho2 (by simp) (by simpa using n3), hw2.set hr2 (by simp), fun b3 hb3 => ?_, h.ne, h'.only.trans (ho2.mono (by simp))⟩
  injection hb3 with hb3
  subst hb3
  refine ⟨hw.only ho2 (by simp; omega), by simp; omega, ?_⟩
  have := h.only.size
  omega

/-- What holds in the second loop: the clone b2 took L2, the reference's window in W is L2; the window b took L, and M is L. -/
structure SecW (w1 : World) (b M W b2 q : Nat) (L L2 L2m : List Nat) (wr : World) : Prop where
  win : WinSet wr b L
  win2 : WinSet wr b2 L2
  len : L2m.length ≤ q
  lenL : L.length ≤ 300
  m : RVar wr [b2, b, M, W] M L
  was : RVar wr [b2, b, M, W] W L2m
  ne : b ≠ M ∧ b ≠ W ∧ M ≠ W ∧ b2 ∉ [b, M, W]
  only : Only [b2, b, M, W] w1 wr

theorem SecW.quiet {w1 wr w' : World} {b M W b2 q : Nat} {L L2 L2m : List Nat} (h : SecW w1 b M W b2 q L L2 L2m wr) (ho : Only [] wr w') : SecW w1 b M W b2 q L L2 L2m w' :=
  ⟨h.win.only ho (by simp), h.win2.only ho (by simp), h.len, h.lenL, h.m.only ho (by simp) (by simp), h.was.only ho (by simp) (by simp), h.ne, h.only.trans (ho.mono (by simp))⟩
theorem SecW.took {w1 wr w' : World} {b M W b2 q : Nat} {L L2 L2' L2m : List Nat} (h : SecW w1 b M W b2 q L L2 L2m wr) (hw : WinSet w' b2 L2') (ho : Only [b2] wr w') : SecW w1 b M W b2 q L L2' L2m w' := by
  obtain ⟨n1, n2, n3, n4⟩ := h.ne
  simp at n4
  exact ⟨h.win.only ho (by simp; omega), hw, h.len, h.lenL, h.m.only ho (by simp) (by simp; omega), h.was.only ho (by simp) (by simp; omega), h.ne, h.only.trans (ho.mono (by simp))⟩
theorem SecW.grew {w1 wr : World} {b M W b2 q : Nat} {L L2 L2m Lm' : List Nat} {s' : Value} (h : SecW w1 b M W b2 q L L2 L2m wr) (hr : Rd wr [b2, b, M, W] s' (ints .u64 (nats Lm'))) (hk : Lm'.length ≤ q + 1) :
    SecW w1 b M W b2 (q + 1) L L2 Lm' (wr.setCell ⟨W, 0, none⟩ s') := by
  obtain ⟨n1, n2, n3, n4⟩ := h.ne
  simp at n4
  have ho : Only [W] wr (wr.setCell ⟨W, 0, none⟩ s') := (Only.refl [W] wr).setCell (.inl (by simp)) _
  exact ⟨h.win.only ho (by simp; omega), h.win2.only ho (by simp; omega), hk, h.lenL, h.m.only ho (by simp) (by simp; omega), h.was.set hr (by simp), h.ne, h.only.trans (ho.mono (by simp))⟩
theorem SecW.next {w1 wr : World} {b M W b2 q : Nat} {L L2 L2m : List Nat} (h : SecW w1 b M W b2 q L L2 L2m wr) : SecW w1 b M W b2 (q + 1) L L2 L2m wr :=
  ⟨h.win, h.win2, by have := h.len; omega, h.lenL, h.m, h.was, h.ne, h.only⟩
theorem TakesW.second {w1 wr : World} {b M W k b2 : Nat} {L LO : List Nat} (h : TakesW w1 b M W k L L LO (some b2) wr) (hk : k ≤ 300) : SecW w1 b M W b2 k L LO LO wr := by
  obtain ⟨n1, n2, n3⟩ := h.ne
  obtain ⟨h1, h2, h3⟩ := h.old b2 rfl
  exact ⟨h.win, h1, h.lenO, by have := h.len; omega, h.m, h.was, ⟨n1, n2, n3, h2⟩, h.only.mono (by intro x hx; left; exact List.mem_cons_of_mem _ hx)⟩

def SecRel (w1 : World) (b M W b2 n : Nat) (L : List Nat) (i : Value) (wr : World) : Prop :=
  ∃ (z : Int) (L2 : List Nat) (q : Nat), -1 ≤ z ∧ z < n ∧ i = .int .i64 z ∧ (q : Int) + z ≤ 2 * n ∧ Hid (SecW w1 b M W b2 q L L2 L2 wr)

def TakesRel (w1 : World) (b M W n : Nat) (old i : Value) (wr : World) : Prop :=
  ∃ (k : Nat) (L LO : List Nat) (ob : Option Nat), k ≤ n ∧ i = .int .i64 k ∧ old = .pointer (ob.map fun b2 => ⟨b2, 0, none⟩) ∧ Hid (TakesW w1 b M W k L L LO ob wr)

set_option maxRecDepth 100000 in
set_option maxHeartbeats 8000000 in
theorem takes_walk (v : Value) (ns : List Nat) (at_ : Int) (w : World) (hv : Rd w [] v (ints .u64 (nats ns))) (hns : ∀ n ∈ ns, n < 18446744073709551616) (h300 : ns.length ≤ 300) :
    Calls Try.prog 7 #[v, .int .i64 at_] w fun e w' => e = .returned (.bool true) ∧ Only [] w w' := by
  obtain ⟨A, cap, rfl, hcap, hm⟩ := hv.formi
  rw [nats_length] at hv hcap ⊢
  unfold maxLen at hm
  have hat := hide hv.at_.2.2.2
  obtain ⟨n, hn⟩ : ∃ n, n = ns.length := ⟨_, rfl⟩
  have HN := hide hn
  have HNS := hide hns
  rw [← hn] at hcap h300 ⊢
  clear hv hn hns
  go_enter Try.func7, Try.ntmps7
  go_wp2_with (first
    | (go_at_call 23; refine (awake07 _).mono ?_; rintro e w1 ⟨rfl, ho1⟩)
    | (go_at_call 24; refine (win_new _).mono ?_; rintro e w2 ⟨b, rfl, hw2, ho2, hb⟩))
  have hsz := ho1.size
  have HT0 : TakesW w1 b w2.heap.size (w2.heap.size + 1) 0 [] [] [] none ((w2.alloc (.cells #[.slice none 0 0] 52)).alloc (.cells #[.slice none 0 0] 52)) := by
    have hlt := hw2.lt
    have hws := WinSet.new hw2
    refine ⟨(hws.only ((Only.refl [] w2).alloc _) (by simp)).only ((Only.refl [] _).alloc _) (by simp), Nat.le_refl _, Nat.le_refl _, ⟨_, (Blk.new w2 _ _).alloc _, Rd.nil _ _⟩, ⟨.slice none 0 0, ?_, Rd.nil _ _⟩, fun b2 h => (by cases h), (by omega), ((ho2.mono (by simp)).alloc _).alloc _⟩
    have h := Blk.new (w2.alloc (.cells #[.slice none 0 0] 52)) 52 #[.slice none 0 0]
    simpa using h
  have hM1 : w1.heap.size ≤ w2.heap.size := ho2.size
  have hW1 : w1.heap.size ≤ w2.heap.size + 1 := by omega
  obtain ⟨M, hM⟩ : ∃ M, M = w2.heap.size := ⟨_, rfl⟩
  obtain ⟨W, hW⟩ : ∃ W, W = w2.heap.size + 1 := ⟨_, rfl⟩
  rw [← hW, ← hM] at HT0
  rw [← hW, ← hM]
  rw [← hM] at hM1
  rw [← hW] at hW1
  clear hM hW hw2 ho2
  generalize ((w2.alloc (.cells #[.slice none 0 0] 52)).alloc (.cells #[.slice none 0 0] 52)) = w3 at HT0 ⊢
  have HT := hide HT0
  have HO1 := hide ho1
  clear HT0 ho1
  go_loopw [7, 9] (fun old i wr => TakesRel w1 b M W n old i wr) (fun _ i _ => n - (intOf i).toNat)
  case atStart => exact ⟨0, [], [], none, Nat.zero_le _, rfl, rfl, HT⟩
  case round =>
    obtain ⟨k, L, LO, ob, hk, rfl, rfl, htw⟩ := hrel
    rcases Nat.lt_or_ge k n with hlt | hge
    case inl =>
      have hi : (k : Int) < n := by omega
      have hkx : ns[k]? = some (ns[k]'(by rw [← HN.out]; exact hlt)) := List.getElem?_eq_getElem _
      generalize (ns[k]'(by rw [← HN.out]; exact hlt)) = x at hkx
      obtain ⟨g, o, rfl, _, hgl, hcx⟩ := hat.out k _ (ints_get (nats_get hkx))
      have hgb : g ∉ [b, M, W] := by simp; omega
      have hg1 : g < w1.heap.size := by omega
      have HX := hide (HNS.out x (List.mem_of_getElem? hkx))
      have HCX := hide ((cell_only HO1.out (a := ⟨g, o + k, none⟩) hgl (by simp)).trans hcx)
      clear hkx hcx
      go_upto_if 31 with (fail)
      go_cut [7] (fun old' wr' => ∃ (LO' : List Nat) (ob' : Option Nat), old' = .pointer (ob'.map fun b2 => ⟨b2, 0, none⟩) ∧ Hid (TakesW w1 b M W k L L LO' ob' wr'))
      case first =>
        by_cases hka : (k : Int) = at_
        · have hq : ((k : Int) == at_) = true := by rw [beq_iff_eq]; exact hka
          clear hka
          obtain ⟨s, hblkM, hrdM⟩ := htw.out.m
          obtain ⟨sO, hblkW, _⟩ := htw.out.was
          have kM := hblkM.cell 0
          have kW := hblkW.cell 0
          have zW := hblkW.frozen 0
          have HBM := hide hblkM
          have HBW := hide hblkW
          simp at kM kW
          obtain ⟨A2, c2, rfl, _, _⟩ := hrdM.form
          clear hblkM hblkW hrdM
          go_wp2_with fail
          go_region_with (go_at_call 28; refine (winset_clone _ b L (htw.out.win.only (by first | exact Only.refl [] _ | exact (Only.refl [] _).drew) (by simp))).mono ?_; rintro e w5 ⟨b2, rfl, hw5, ho5, hb5⟩; have k5 := (HBM.out.only (S := []) (by first | exact ho5 | exact ((Only.refl [] _).drew).trans ho5) (by simp)).cell 0; have k5' := (HBW.out.only (S := []) (by first | exact ho5 | exact ((Only.refl [] _).drew).trans ho5) (by simp)).cell 0; have z5 := (HBW.out.only (S := []) (by first | exact ho5 | exact ((Only.refl [] _).drew).trans ho5) (by simp)).frozen 0; simp at k5 k5')
          all_goals
            go_wp2_with fail
            go_meet
            exact ⟨L, some b2, rfl, hide (htw.out.cloned hw5 (by first | exact ho5 | exact ((Only.refl [] _).drew).trans ho5) hb5 (HBM.out.cell 0))⟩
        · have hq : ((k : Int) == at_) = false := by rw [beq_eq_false_iff_ne]; exact hka
          clear hka
          go_wp2_with fail
          go_meet
          exact ⟨LO, ob, rfl, htw⟩
      case rest =>
        obtain ⟨LO', ob', rfl, htw'⟩ := hcut
        go_upto_region 14 with (fail)
        go_cut [10] (fun want wr' => want = .int .i64 (wouldL L x) ∧ Hid (TakesW w1 b M W k L L LO' ob' wr'))
        case first =>
          have hcx := (cell_only htw'.out.only (a := ⟨g, o + k, none⟩) hg1 hgb).trans HCX.out
          obtain ⟨s, hblkM, hrdM⟩ := htw'.out.m
          have kM := hblkM.cell 0
          simp at kM
          obtain ⟨A2, c2, rfl, hc2, _⟩ := hrdM.formi
          rw [nats_length] at hrdM hc2 kM
          have HRM := hide hrdM
          clear hblkM hrdM
          generalize hll : L.length = l at HRM hc2 kM
          clear hll
          go_region_with (go_at_call 29; refine (ref_would _ _ _ L x ⟨_, rfl, HRM.out.only (by first | exact Only.refl [] _ | exact (Only.refl [] _).drew) (by simp)⟩ HX.out (Nat.lt_trans htw'.out.win.max_lt (by omega))).mono ?_; rintro e w5 ⟨rfl, ho5⟩)
          all_goals
            go_wp2_with fail
            go_meet
            exact ⟨rfl, hide (htw'.out.quiet (by first | exact ho5 | exact ((Only.refl [] _).drew).trans ho5 | exact ho5.drew))⟩
        case rest =>
          obtain ⟨rfl, htw2⟩ := hcut
          have hcx := (cell_only htw2.out.only (a := ⟨g, o + k, none⟩) hg1 hgb).trans HCX.out
          generalize hr : wouldL L x = r
          have HR := hide hr
          clear hr
          go_upto_if 60 with (first
            | (go_at_call 30; refine (winset_would _ b L x htw2.out.win HX.out).mono ?_; rw [HR.out]; rintro e w5 ⟨rfl, rfl⟩)
            | (go_at_call 25; refine (winset_take_at _ b L (takeL L x) x r htw2.out.win HX.out HR.out rfl).mono ?_; rintro e w6 ⟨rfl, hw6, ho6⟩; have htw6 := hide (htw2.out.took hw6 ho6); clear hw6 ho6))
          go_cut [] (fun wr' => Hid (TakesW w1 b M W (k + 1) (takeL L x) (takeL L x) LO' ob' wr'))
          case first =>
            by_cases h0 : r = 0
            · have hq : (r == 0) = true := by rw [beq_iff_eq]; exact h0
              have htk := hide (show takeL L x = L ++ [x] by unfold takeL; rw [HR.out, if_pos h0])
              clear h0
              have hcx6 := (cell_only htw6.out.only (a := ⟨g, o + k, none⟩) hg1 hgb).trans HCX.out
              obtain ⟨s, hblkM, hrdM⟩ := htw6.out.m
              have kM := hblkM.cell 0
              have zM := hblkM.frozen 0
              have HBM := hide hblkM
              simp at kM
              obtain ⟨A2, c2, rfl, hc2, _⟩ := hrdM.formi
              rw [nats_length] at hrdM hc2 kM HBM
              have HRM := hide hrdM
              have HLL := hide htw6.out.len
              clear hblkM hrdM hcx
              generalize hll : L.length = l at HRM hc2 kM HBM
              have HLQ := hide hll
              clear hll
              have HSZ := hide (show ∀ z ∈ ob'.toList ++ [b, M, W], z < w6.heap.size from fun z hz => by
                rcases List.mem_append.1 hz with hz | hz
                · obtain ⟨hz1, _⟩ := htw6.out.old z (by simpa using hz)
                  exact hz1.lt
                · have h1 := htw6.out.win.lt
                  have h2 := htw6.out.m.lt
                  have h3 := htw6.out.was.lt
                  simp at hz
                  omega)
              go_wp2_with fail
              go_region_with (go_at_call 31; refine (ref_take _ (ob'.toList ++ [b, M, W]) _ L x ⟨_, rfl, HRM.out.only (by first | exact Only.refl [] _ | exact (Only.refl [] _).drew) (by simp)⟩ (by first | exact HSZ.out | exact HSZ.out) (by have := HLL.out; omega)).mono ?_; rintro e w7 ⟨v7, rfl, ⟨s7, rfl, hr7⟩, ho7⟩; have k7 := (HBM.out.only (S := []) (by first | exact ho7 | exact ((Only.refl [] _).drew).trans ho7) (by simp)).cell 0; have z7 := (HBM.out.only (S := []) (by first | exact ho7 | exact ((Only.refl [] _).drew).trans ho7) (by simp)).frozen 0; simp at k7; have HR7 := hide hr7; obtain ⟨A7, c7, rfl, _, _⟩ := hr7.formi; clear hr7)
              all_goals
                go_wp2_with fail
                go_meet
                have h := htw6.out.quiet (w' := w7) (by first | exact ho7 | exact ((Only.refl [] _).drew).trans ho7)
                have h2 := h.grew HR7.out (by have := HLL.out; simp; omega)
                rw [htk.out] at h2 ⊢
                exact hide h2
            · have hq : (r == 0) = false := by rw [beq_eq_false_iff_ne]; exact h0
              have htk := hide (show takeL L x = L by unfold takeL; rw [HR.out, if_neg h0])
              clear h0
              go_wp2_with fail
              go_meet
              have h := htw6.out
              rw [htk.out] at h ⊢
              exact hide h.next
          case rest =>
            have hcx9 := hcx
            clear hcx hcx9
            generalize takeL L x = L2 at hcut
            have hm64 := hide (Nat.lt_trans hcut.out.win.max_lt (show 18446744073709543423 < 18446744073709551616 by omega))
            have HLL := hide (show L2.length ≤ 10000 by have := hcut.out.len; omega)
            obtain ⟨s, hblkM, hrdM⟩ := hcut.out.m
            have kM := hblkM.cell 0
            simp at kM
            obtain ⟨A2, c2, rfl, hc2, _⟩ := hrdM.formi
            rw [nats_length] at hrdM hc2 kM hblkM
            have HBM := hide hblkM
            have HRM := hide hrdM
            have hll : L2 = [] ∧ L2.length = 0 ∨ L2 ≠ [] ∧ 0 < L2.length := by
              rcases L2 with _ | ⟨y, l⟩
              · left; simp
              · right; simp
            clear hblkM hrdM
            generalize L2.length = l at HRM hc2 kM HBM hll
            have hD : ∃ d : Bool, decide (L2 ≠ []) = d ∧ (d = true ∧ ((0 : Int) < l ∧ 0 < l) ∨ d = false ∧ (¬ (0 : Int) < l ∧ ¬ 0 < l)) := by
              rcases hll with ⟨h1, h2⟩ | ⟨h1, h2⟩
              · exact ⟨false, by simp [h1], .inr ⟨rfl, by omega, by omega⟩⟩
              · exact ⟨true, by simp [h1], .inl ⟨rfl, by omega, h2⟩⟩
            obtain ⟨d, hd, hdl⟩ := hD
            have HD := hide hd
            clear hll hd
            have HEND := hide (show ∀ w', Only [] wc w' → Hid (TakesW w1 b M W (k + 1) L2 L2 LO' ob' w') from fun w' ho => hide (hcut.out.quiet ho))
            have HW0 := hide hcut.out.win
            clear hcut
            rcases hdl with ⟨rfl, hl, hlN⟩ | ⟨rfl, hl, hlN⟩
            all_goals
              go_wp2_with (go_at_call 26; refine (winset_top _ b L2 HW0.out).mono ?_; rw [HD.out]; rintro e w5 ⟨rfl, rfl⟩)
              go_region_held3 (fun w' => w'.cell? ⟨M, 0, none⟩ = some (.slice A2 l c2)) (first | exact kM | exact kA | exact kC)
                (first
                | (go_at_call 32; refine (ref_top _ _ _ L2 ⟨_, rfl, HRM.out.only (S := []) ((Only.refl [] _).drew) (by simp)⟩).mono ?_; rintro e wA ⟨rfl, hoA⟩; have HOA := hide (((Only.refl [] wc).drew).trans hoA); clear hoA; have kA := (HBM.out.only HOA.out (by simp)).cell 0; simp at kA)
                | (go_at_call 27; refine (winset_missing _ b L2 (HW0.out.only HOA.out (by simp))).mono ?_; rintro e wB ⟨rfl, rfl⟩)
                | (go_at_call 33; refine (ref_missing _ _ _ L2 ⟨_, rfl, HRM.out.only HOA.out (by simp)⟩ hm64.out HLL.out).mono ?_; rintro e wC ⟨rfl, hoC⟩; have HOC := hide (HOA.out.trans hoC); clear hoC; have kC := (HBM.out.only HOC.out (by simp)).cell 0; simp at kC))
              all_goals
                go_wp2_with fail
                go_roundw
                case rel => exact ⟨k + 1, L2, LO', ob', by omega, by go_num, rfl, HEND.out _ HOC.out⟩
                case measure => simp [intOf]; omega
    case inr =>
      have hi : ¬ (k : Int) < n := by omega
      have HFIN := hide (show ∀ (S : List Nat) w', (∀ x ∈ S, w1.heap.size ≤ x) → Only S w1 w' → Only [] w w' from fun S w' hS ho => ((HO1.out.mono (by simp)).trans ho).mono (fun x hx => .inr (by have := hS x hx; omega)))
      cases ob with
      | none =>
        clear hge
        go_wp2
        go_ret
        exact ⟨rfl, HFIN.out _ _ (by simp; omega) htw.out.only⟩
      | some b2 =>
        have hb2 := (htw.out.old b2 rfl).2.2
        have HS0 := hide (htw.out.second (show k ≤ 300 by omega))
        have HHR := hide (show ∀ x ∈ [b2, b, M, W], w1.heap.size ≤ x by simp; omega)
        have hkn : k = n := by omega
        have hrel0 : SecRel w1 b M W b2 n L (.int .i64 ((n : Int) - 1)) wr := ⟨_, LO, k, by omega, by omega, rfl, by omega, HS0⟩
        have hnI : (n : Int) ≤ 300 := by omega
        clear hge htw HS0 hkn
        go_wp2_with fail
        go_loopw [13] (fun i wr => SecRel w1 b M W b2 n L i wr) (fun i _ => (intOf i + 1).toNat)
        case atStart => exact hrel0
        case round =>
          clear hrel0
          obtain ⟨z, L2, q, hz1, hz2, rfl, hqz, hsw⟩ := hrel
          rcases Int.lt_or_le z 0 with hz | hz
          case inl =>
            have hz0 : ¬ (0 : Int) ≤ z := by omega
            obtain ⟨s, hblkM, hrdM⟩ := hsw.out.m
            obtain ⟨sO, hblkW, hrdW⟩ := hsw.out.was
            have kM := hblkM.cell 0
            have kW := hblkW.cell 0
            have HBM := hide hblkM
            have HBW := hide hblkW
            simp at kM kW
            have HRM := hide hrdM
            have HRW := hide hrdW
            have HW0 := hide hsw.out.win
            have HW2 := hide hsw.out.win2
            have HLL := hide (show L.length ≤ 10000 by have := hsw.out.lenL; omega)
            have HLL2 := hide (show L2.length ≤ 10000 by have := hsw.out.len; omega)
            have hm1 := hide (Nat.lt_trans hsw.out.win.max_lt (show 18446744073709543423 < 18446744073709551616 by omega))
            have hm2 := hide (Nat.lt_trans hsw.out.win2.max_lt (show 18446744073709543423 < 18446744073709551616 by omega))
            have HEND := hide (show ∀ w', Only [] wr w' → Only [] w w' from fun w' ho => HFIN.out _ _ HHR.out (hsw.out.only.trans (ho.mono (by simp))))
            clear hblkM hblkW hrdM hrdW hsw
            go_wp2_with fail
            go_region_held3 (fun w' => w'.cell? ⟨M, 0, none⟩ = some s ∧ w'.cell? ⟨W, 0, none⟩ = some sO) (first | exact ⟨kM, kW⟩ | exact ⟨kA, kA'⟩ | exact ⟨kC, kC'⟩)
              (first
              | (go_at_call_of 27 (Value.pointer (some ⟨b2, 0, none⟩)); refine (winset_missing _ b2 L2 (HW2.out.only (S := []) ((Only.refl [] _).drew) (by simp))).mono ?_; rintro e wA ⟨rfl, rfl⟩)
              | (go_at_call_of 33 (Value.agg #[sO]); refine (ref_missing _ _ _ L2 ⟨_, rfl, HRW.out.only (S := []) ((Only.refl [] _).drew) (by simp)⟩ hm2.out HLL2.out).mono ?_; rintro e wB ⟨rfl, hoB⟩; have HOB := hide (((Only.refl [] wr).drew).trans hoB); clear hoB; have kA := (HBM.out.only HOB.out (by simp)).cell 0; have kA' := (HBW.out.only HOB.out (by simp)).cell 0; simp at kA kA')
              | (go_at_call_of 27 (Value.pointer (some ⟨b, 0, none⟩)); refine (winset_missing _ b L (HW0.out.only HOB.out (by simp))).mono ?_; rintro e wC ⟨rfl, rfl⟩)
              | (go_at_call_of 33 (Value.agg #[s]); refine (ref_missing _ _ _ L ⟨_, rfl, HRM.out.only HOB.out (by simp)⟩ hm1.out HLL.out).mono ?_; rintro e wD ⟨rfl, hoD⟩; have HOD := hide (HOB.out.trans hoD); clear hoD; have kC := (HBM.out.only HOD.out (by simp)).cell 0; have kC' := (HBW.out.only HOD.out (by simp)).cell 0; simp at kC kC'))
            go_wp2_with fail
            go_ret
            exact ⟨rfl, HEND.out _ HOD.out⟩
          case inr =>
            obtain ⟨j, rfl⟩ := Int.eq_ofNat_of_zero_le hz
            have hjn : j < n := by omega
            have hkx : ns[j]? = some (ns[j]'(by rw [← HN.out]; exact hjn)) := List.getElem?_eq_getElem _
            generalize (ns[j]'(by rw [← HN.out]; exact hjn)) = x at hkx
            obtain ⟨g, o, rfl, _, hgl, hcx⟩ := hat.out j _ (ints_get (nats_get hkx))
            have hgb : g ∉ [b2, b, M, W] := fun h => by have := HHR.out g h; omega
            have hg1 : g < w1.heap.size := by omega
            have HX := hide (HNS.out x (List.mem_of_getElem? hkx))
            have HCX := hide ((cell_only HO1.out (a := ⟨g, o + j, none⟩) hgl (by simp)).trans hcx)
            clear hkx hcx
            have hjI : (j : Int) < n := by omega
            go_upto_region 27 with (fail)
            go_cut [14] (fun want wr' => want = .int .i64 (wouldL L2 x) ∧ Hid (SecW w1 b M W b2 q L L2 L2 wr'))
            case first =>
              have hcx := (cell_only hsw.out.only (a := ⟨g, o + j, none⟩) hg1 hgb).trans HCX.out
              obtain ⟨s, hblkM, hrdM⟩ := hsw.out.was
              have kM := hblkM.cell 0
              simp at kM
              obtain ⟨A2, c2, rfl, hc2, _⟩ := hrdM.formi
              rw [nats_length] at hrdM hc2 kM
              have HRM := hide hrdM
              clear hblkM hrdM
              generalize hll : L2.length = l at HRM hc2 kM
              clear hll
              go_region_with (go_at_call 29; refine (ref_would _ _ _ L2 x ⟨_, rfl, HRM.out.only (by first | exact Only.refl [] _ | exact (Only.refl [] _).drew) (by simp)⟩ HX.out (Nat.lt_trans hsw.out.win2.max_lt (by omega))).mono ?_; rintro e w5 ⟨rfl, ho5⟩)
              all_goals
                go_wp2_with fail
                go_meet
                exact ⟨rfl, hide (hsw.out.quiet (by first | exact ho5 | exact ((Only.refl [] _).drew).trans ho5 | exact ho5.drew))⟩
            case rest =>
              obtain ⟨rfl, htw2⟩ := hcut
              have hcx := (cell_only htw2.out.only (a := ⟨g, o + j, none⟩) hg1 hgb).trans HCX.out
              generalize hr : wouldL L2 x = r
              have HR := hide hr
              clear hr
              go_upto_if 115 with (go_at_call 25; refine (winset_take_at _ b2 L2 (takeL L2 x) x r htw2.out.win2 HX.out HR.out rfl).mono ?_; rintro e w6 ⟨rfl, hw6, ho6⟩; have htw6 := hide (htw2.out.took hw6 ho6); clear hw6 ho6)
              by_cases h0 : r = 0
              · have hq : (r == 0) = true := by rw [beq_iff_eq]; exact h0
                have htk := hide (show takeL L2 x = L2 ++ [x] by unfold takeL; rw [HR.out, if_pos h0])
                clear h0
                have hcx6 := (cell_only htw6.out.only (a := ⟨g, o + j, none⟩) hg1 hgb).trans HCX.out
                obtain ⟨s, hblkM, hrdM⟩ := htw6.out.was
                have kM := hblkM.cell 0
                have zM := hblkM.frozen 0
                have HBM := hide hblkM
                simp at kM
                obtain ⟨A2, c2, rfl, hc2, _⟩ := hrdM.formi
                rw [nats_length] at hrdM hc2 kM HBM
                have HRM := hide hrdM
                have HLL := hide htw6.out.len
                clear hblkM hrdM hcx
                generalize hll : L2.length = l at HRM hc2 kM HBM
                have HLQ := hide hll
                clear hll
                have HSZ := hide (show ∀ z ∈ [b2, b, M, W], z < w6.heap.size from fun z hz => by
                  have h0 := htw6.out.win2.lt
                  have h1 := htw6.out.win.lt
                  have h2 := htw6.out.m.lt
                  have h3 := htw6.out.was.lt
                  simp at hz
                  omega)
                go_wp2_with fail
                go_region_with (go_at_call 31; refine (ref_take _ [b2, b, M, W] _ L2 x ⟨_, rfl, HRM.out.only (by first | exact Only.refl [] _ | exact (Only.refl [] _).drew) (by simp)⟩ (by exact HSZ.out) (by have := HLL.out; omega)).mono ?_; rintro e w7 ⟨v7, rfl, ⟨s7, rfl, hr7⟩, ho7⟩; have k7 := (HBM.out.only (S := []) (by first | exact ho7 | exact ((Only.refl [] _).drew).trans ho7) (by simp)).cell 0; have z7 := (HBM.out.only (S := []) (by first | exact ho7 | exact ((Only.refl [] _).drew).trans ho7) (by simp)).frozen 0; simp at k7; have HR7 := hide hr7; obtain ⟨A7, c7, rfl, _, _⟩ := hr7.formi; clear hr7)
                all_goals
                  have h := htw6.out.quiet (w' := w7) (by first | exact ho7 | exact ((Only.refl [] _).drew).trans ho7)
                  have h2 := h.grew HR7.out (by have := HLL.out; simp; omega)
                  rw [htk.out] at h2
                  have H2 := hide h2
                  clear h h2
                  go_wp2_with fail
                  go_roundw
                  case rel => exact ⟨(j : Int) - 1, _, q + 1, by omega, by omega, rfl, by omega, H2⟩
                  case measure => simp [intOf]
              · have hq : (r == 0) = false := by rw [beq_eq_false_iff_ne]; exact h0
                have htk := hide (show takeL L2 x = L2 by unfold takeL; rw [HR.out, if_neg h0])
                clear h0
                have h := htw6.out
                rw [htk.out] at h
                have H2 := hide h.next
                clear h
                go_wp2_with fail
                go_roundw
                case rel => exact ⟨(j : Int) - 1, _, q + 1, by omega, by omega, rfl, by omega, H2⟩
                case measure => simp [intOf]

set_option maxRecDepth 100000 in
theorem takes_long (v : Value) (ns : List Nat) (at_ : Int) (w : World) (hv : Rd w [] v (ints .u64 (nats ns))) (h300 : 300 < ns.length) :
    Calls Try.prog 7 #[v, .int .i64 at_] w fun e w' => e = .returned (.bool true) ∧ Only [] w w' := by
  obtain ⟨A, cap, rfl, hcap, hm⟩ := hv.formi
  rw [nats_length] at hv hcap ⊢
  unfold maxLen at hm
  clear hv
  generalize ns.length = n at hcap h300 ⊢
  have h3 : (300 : Int) < n := by omega
  go_enter Try.func7, Try.ntmps7
  go_wp2_with (go_at_call 23; refine (awake07 _).mono ?_; rintro e w1 ⟨rfl, ho1⟩)
  go_ret
  exact ⟨rfl, ho1⟩

theorem takes_law (v : Value) (zs : List Int) {w : World} (hv : Rd w [] v (ints .u64 zs)) (hz : ∀ n ∈ zs, (Lit.int .u64 n).wf = true) (at_ : Int) (_ : (Lit.int .i64 at_).wf = true) :
    Calls Try.prog 7 #[v, .int .i64 at_] w fun e w' => e = .returned (.bool true) ∧ Only [] w w' := by
  obtain ⟨ns, rfl, hns⟩ := nats_of zs hz
  rcases Nat.lt_or_ge 300 ns.length with h | h
  · exact takes_long v ns at_ w hv h
  · exact takes_walk v ns at_ w hv hns h

theorem own_windowTakes : ownKnob Try.prog.godebug = none := by kernel_rfl
theorem laidOut_windowTakes : laidOutB Try.prog = true := by kernel_rfl

set_option maxRecDepth 100000 in
theorem lifted_windowTakes (os : Os) (started : os.Started) (H : Type) (enc : TypeId × Value → H) :
    ReturnsInHanded {} Try.checked os 7 .any (Rows.windowTakesSpec.pre6 enc Try.prog Try.f7 Rows.windowTakesRow.domain false) (Rows.windowTakesSpec.post enc Try.prog Try.f7 false true false false) := by
  refine returnsInHanded_of_change (C := Try.checked) own_windowTakes started (by kernel_rfl) Try.func7
    (ChangeSpec.witness6 (enc := enc) (C := Try.checked) false ⟨#[], #[.slice none 0 0, .int .i64 0], []⟩ 8 (by kernel_rfl) (by kernel_rfl) (by kernel_rfl) (by kernel_rfl)) ?_
  intro W base args ds gs before hval0 hW hcnd _
  have hval : ∀ (j : Nat) t v, Try.f7.params[j]? = some t → args[j]? = some v → Value.okWide Try.prog W .any base t v := hval0
  have hW' := hW
  obtain ⟨p, q, hA0, hV, rfl, hfz, hnd⟩ := hW
  have hA : DataW.TrodAll enc Try.prog W 0 (fun _ => true) true Try.f7.params.toList args.toList ds p := hA0
  rw [Try.params7] at hA hval
  obtain ⟨v0, vs0, d0, ds0, p0, q0, hargs, rfl, rfl, h0, r0⟩ := trodAll_cons hA
  obtain ⟨v1, vs1, d1, ds1, p1, q1, rfl, rfl, rfl, h1, r1⟩ := trodAll_cons r0
  obtain ⟨rfl, rfl, rfl⟩ := trodAll_nil r1
  obtain rfl : args = #[v0, v1] := by cases args; simp_all
  obtain ⟨rfl, rfl⟩ := trodVars_none hV
  obtain ⟨a0, len0, cap0, rfl⟩ := okWide_slice Try.underlying34 (hval 0 34 v0 rfl rfl)
  have k0 := h0
  have lt0 : ∀ x ∈ p0, x.block < W.heap.size := by obtain ⟨m, hm⟩ := k0; exact DataW.trod_lt m _ _ _ hm
  obtain ⟨z0, w0, f0⟩ := rd_of_trod (k := .u64) Try.underlying34 Try.underlying33 (by kernel_rfl) h0
  obtain ⟨a1, rfl, rfl, rfl, w1⟩ := open_int Try.underlying3 (hval 1 3 v1 rfl rfl) h1
  clear hA0 hval0
  refine (takes_law _ z0 w0 f0 a1 w1).mono fun e W' ⟨he, hon⟩ => ?_
  subst he
  have bel : Below W.heap.size W W' := hon.below (fun x hx => by cases hx) (Nat.le_refl _)
  exact ⟨_, rfl, _, _, _, [], _, [], hW', trodAll_mk1 (shut_bool Try.underlying4 _), (trodAll_cons_mk (Below.trod laidOut_windowTakes (by kernel_rfl) (of_decide_eq_true (by kernel_rfl)) k0 bel lt0) (trodAll_cons_mk (shut_int Try.underlying3 w1) trodAll_mk0)), rfl, bel.frame _, fun h => by cases h⟩

theorem over_windowTakes : Rows.windowTakesRow.holds Try.pinned (OpenSpec.ofChange Rows.windowTakesSpec) :=
  OpenClaim.holds_of_wide 7 Try.f7 rfl rfl rfl rfl rfl rfl rfl ⟨rfl, rfl, rfl, rfl, rfl⟩ rfl rfl rfl rfl rfl (by kernel_rfl) Try.func7 (by kernel_rfl)
    (of_decide_eq_true (by kernel_rfl)) (by unfold Func.isWrapper; first | (rw [if_pos (by decide +kernel)]; kernel_rfl) | (rw [if_neg (by decide +kernel)]; exact ⟨rfl, rfl⟩))
    (fun os started H enc _ => lifted_windowTakes os started H enc)

theorem windowTakes_proved : Rows.WindowTakesSaid := over_windowTakes
#print axioms windowTakes_proved
end Go.Proofs.Ytokpdhcgclfmnaa

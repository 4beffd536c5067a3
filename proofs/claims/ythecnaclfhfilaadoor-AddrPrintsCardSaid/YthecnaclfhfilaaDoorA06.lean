/-
  Walks and plain words (texts Rfb). No condition beyond those that each theorem states.
-/
import Derived.Test.YthecnaclfhfilaaDoorA05
namespace Go.Proofs.YthecnaclfhfilaaDoor
section
open Go.RowKit Go.Shelf
attribute [local go_sem] Oper.semAt_some

theorem pairs_any (w : World) (A : Option Addr) (n c : Nat) : Calls Tryd.prog 30 #[.slice A n c] w fun e w' => e = .returned (.func (.func 45) #[] #[.pointer (some ⟨w.heap.size, 0, none⟩)]) ∧ w' = w.alloc (.cells #[.slice A n c] 23) := by
  go_enter Tryd.func30, Tryd.ntmps30
  go_wp2
  go_ret
  exact ⟨rfl, rfl⟩
/-- The text of an address with colons, up to a pair. -/
def colV (l : List UInt8) : Nat → List UInt8
  | 0 => []
  | k + 1 => colV l k ++ ((if k = 0 then [] else [58]) ++ hexS [l.getD (2 * k) 0, l.getD (2 * k + 1) 0])
theorem hex_two (a b : UInt8) : (hexS [a, b]).length = 4 := by simp [hexS, hd]
theorem col_len (l : List UInt8) : ∀ k, (colV l k).length ≤ 5 * k
  | 0 => by simp [colV]
  | k + 1 => by
    have h1 := col_len l k
    simp only [colV, List.length_append, hex_two]
    split <;> simp only [List.length_nil, List.length_singleton] <;> omega
theorem rd_two {w : World} {N : List Nat} {g o cap : Nat} {l : List UInt8} (h : Rd w N (.slice (some ⟨g, o, none⟩) 16 cap) (ints .u8 (byts l))) (h16 : l.length = 16) {k : Nat} (hk : k < 8) :
    Rd w N (.slice (some ⟨g, o + 2 * k, none⟩) 2 (cap - 2 * k)) (ints .u8 (byts [l.getD (2 * k) 0, l.getD (2 * k + 1) 0])) := by
  obtain ⟨A, c, hv, hc, hm, h⟩ := h
  injection hv with e1 e2 e3
  subst e3
  rw [ints_length, byts_length, h16] at hc
  rcases h with h | ⟨g', o', hA, hg, hl, hcell⟩
  · have := congrArg List.length h
    rw [ints_length, byts_length, h16] at this
    cases this
  · rw [← e1] at hA
    injection hA with hA
    injection hA with e4 e5
    subst e4 e5
    refine ⟨_, _, rfl, by rw [ints_length, byts_length]; show 2 ≤ _; omega, by omega, .inr ⟨g, o + 2 * k, rfl, hg, hl, fun i x hx => ?_⟩⟩
    have hget : ∀ j, j < 16 → w.cell? ⟨g, o + j, none⟩ = some (.int .u8 ((l.getD j 0).toNat : Nat)) := fun j hj => hcell j _ (ints_get (byts_get (getD_some (by rw [h16]; exact hj))))
    match i, hx with
    | 0, hx =>
      simp [ints, byts] at hx
      rw [← hx, Nat.add_zero, hget (2 * k) (by omega)]
      simp
    | 1, hx =>
      simp [ints, byts] at hx
      rw [← hx, Nat.add_assoc, hget (2 * k + 1) (by omega)]
      simp
    | i + 2, hx => simp [ints, byts] at hx
theorem keepB_trans {b : Nat} {A B C : World} (h : keepB b A B) (k : keepB b B C) : keepB b A C := fun o ho => k o (h o ho)
theorem keepB_put {b : Nat} (W : World) (l : Nat) (o : Obj) (h : b ≠ l) : keepB b W (W.putObj l o) := fun _ hb => (World.putObj_heap_other h).trans hb
theorem isb_keep {B b : Nat} {bs : List Value} {w w' : World} (h : IsB B b bs w) (hk : ∀ (k : Nat) (o : Obj), w.heap[k]? = some o → o.isCells = true → w'.heap[k]? = some o) : IsB B b bs w' := by
  have hown : ∀ {v : Value} {n : Nat}, w.ownsRow B 5 1 v n bs → w'.ownsRow B 5 1 v n bs := fun ho => by
    obtain ⟨h1, h2⟩ := ho
    refine ⟨h1, ?_⟩
    rcases h2 with h2 | ⟨g, cap, cur, rfl, hg, hh, h3⟩
    · exact .inl h2
    · exact .inr ⟨g, cap, cur, rfl, hg, hk _ _ hh rfl, h3⟩
  rcases h with h | h
  · obtain ⟨hB, v, hb, ho, hne⟩ := h
    exact .inl ⟨hB, v, hk _ _ hb rfl, hown ho, hne⟩
  · obtain ⟨hB, v, hb, ho, hne⟩ := h
    exact .inr ⟨hB, v, hk _ _ hb rfl, hown ho, hne⟩
theorem range_snoc {pre : List Nat} {k q : Nat} (h : pre ++ [k] = List.range q) : pre.length = k ∧ k < q := by
  have h1 := congrArg List.length h
  rw [List.length_append, List.length_range] at h1
  have h2 := congrArg (fun l => l[pre.length]?) h
  simp only [List.getElem?_append_right (Nat.le_refl _), Nat.sub_self] at h2
  have h3 : pre.length < q := by simp at h1; omega
  rw [List.getElem?_range h3] at h2
  simp at h2
  omega
theorem kept_blk {w w' : World} {g : Nat} {cs : Array Value} (h : Kept w w') (hb : Blk w g 23 cs) : Blk w' g 23 cs := h g _ (fun _ _ e => by injection e with _ e _; exact absurd e (by decide)) (fun _ _ e => by injection e with _ e _; exact absurd e (by decide)) hb
theorem round_end {α : Type} {D b : Nat} {I : List α → World → Prop} {Ix : Code → List α → World → Prop} {xs : List α} {W W' : World} {cs : Array Value} {R : Loop} {a : Act} (hk : Kept W W') (hD : W.heap[D]? = some (.deferred (some []))) (hL : W.heap[D + 1]? = some (.loop R)) (hx : Blk W b 23 cs) (hi : I xs W') :
    roundOut D (keepB b) I Ix xs W .normal a W' :=
  ⟨⟨(hk D _ (fun _ _ e => by cases e) (fun _ _ e => by cases e) hD).trans hD.symm, (hk (D + 1) _ (fun _ _ e => by cases e) (fun _ _ e => by cases e) hL).trans hL.symm⟩, fun o ho => by
    have e : o = .cells cs 23 (0, 0) := Option.some.inj (ho.symm.trans hx)
    subst e
    exact kept_blk hk hx, hi⟩
set_option maxRecDepth 100000 in
set_option maxHeartbeats 6400000 in
theorem print_sixteen (v : Value) (l : List UInt8) (N : List Nat) (w : World) (hv : Rd w N v (ints .u8 (byts l))) (h16 : l.length = 16) :
    Calls Tryd.prog 12 #[v] w (TxtPost (colV l 8) w) := by
  have HV := hide (hv.less (N' := []) (fun x hx => by cases hx))
  obtain ⟨A, cap, rfl, hcp, hcm⟩ := hv.formb
  rw [h16] at HV hcp ⊢
  obtain ⟨g, o, rfl, hgl⟩ : ∃ g o, A = some ⟨g, o, none⟩ ∧ g < w.heap.size := by
    obtain ⟨g, o, h1, _, h2, _⟩ := HV.out.at_.2.2.2 0 (.int .u8 (l.getD 0 0).toNat) (ints_get (byts_get (getD_some (by omega))))
    exact ⟨g, o, h1, h2⟩
  have HN := hide h16
  have HB := hide (isb_eq (show IsB w.heap.size w.heap.size [] (w.alloc (.cells #[.pointer none, .slice none 0 0] 57)) from Lib.fresh_isBuilder _ _ _) (show [] = Lib.byteCells (colV l 0) by simp [Lib.byteCells, colV]))
  have HC := hide (show Below w.heap.size w (w.alloc (.cells #[.pointer none, .slice none 0 0] 57)) from below_of_only ((Only.refl [] w).alloc _) (Nat.le_refl _))
  clear hv h16
  refine (callsIn_wide (n := 5)).1 ?_
  refine callsIn_of_wp_marks Tryd.func12 rfl trivial ?_ rfl
  simp only [Tryd.ntmps12, List.size_toArray, List.length_cons, List.length_nil, Nat.reduceAdd, Nat.reduceSub, Array.replicate_succ, Array.replicate_zero, List.push_toArray, List.append_toArray, List.nil_append, List.cons_append]
  gi_wp2_with (refine ⟨trivial, ?_⟩; gi_at_call 30; refine (callsIn_wide.2 (pairs_any _ _ _ _)).mono ?_; rintro e w1 ⟨rfl, rfl⟩)
  have HX := hide (show Blk ((w.alloc (.cells #[.pointer none, .slice none 0 0] 57)).alloc (.cells #[.slice (some ⟨g, o, none⟩) 16 cap] 23)) (w.heap.size + 1) 23 #[.slice (some ⟨g, o, none⟩) 16 cap] from by
    have := Blk.new (w.alloc (.cells #[.pointer none, .slice none 0 0] 57)) 23 #[.slice (some ⟨g, o, none⟩) 16 cap]
    rwa [World.size_alloc] at this)
  replace HB := hide (bd_only HB.out ((Only.refl [] _).alloc (.cells #[.slice (some ⟨g, o, none⟩) 16 cap] 23)))
  replace HC := hide (HC.out.alloc (by simp) (.cells #[.slice (some ⟨g, o, none⟩) 16 cap] 23))
  have HSZ := hide (show ((w.alloc (.cells #[.pointer none, .slice none 0 0] 57)).alloc (.cells #[.slice (some ⟨g, o, none⟩) 16 cap] 23)).heap.size = w.heap.size + 2 from by rw [World.size_alloc, World.size_alloc])
  generalize ((w.alloc (.cells #[.pointer none, .slice none 0 0] 57)).alloc (.cells #[.slice (some ⟨g, o, none⟩) 16 cap] 23)) = w2 at *
  refine range_priv (gf := 45) (lb := #[.pointer (some ⟨w.heap.size + 1, 0, none⟩)]) rfl (enters_of Tryd.func45 (by kernel_rfl) rfl) (pairs_seq _ (w.heap.size + 1) g o cap hcp hcm) (by simp) (fun W h => HX.out.only h (by simp)) (fun _ => rfl) keepB_trans (fun W l o' hl => keepB_put W l o' (by have := HSZ.out; omega))
    (fun pre W => IsB w.heap.size w.heap.size (Lib.byteCells (colV l pre.length)) W ∧ Below w.heap.size w W ∧ Blk W (w.heap.size + 1) 23 #[.slice (some ⟨g, o, none⟩) 16 cap])
    (fun _ _ _ => False)
    (fun s X Y h ho hk => ⟨isb_keep h.1 (fun k o h1 h2 => hk k o (by simp) h1 h2), h.2.1.trans (ho.below (fun x hx => by have := HSZ.out; simp at hx; omega) h.2.1.size), hk _ _ (by simp) h.2.2 rfl⟩)
    (fun _ _ _ _ h _ _ => h) ⟨HB.out, HC.out, HX.out⟩
    (fun k => { tmps := #[.slice (some ⟨g, o, none⟩) 16 cap, undef, .string ⟨#[]⟩, .int .i64 0, .pointer (some ⟨w.heap.size, 0, none⟩), undef, undef, .int .i64 (2 * (k : Int)), .slice (some ⟨g, o + 2 * k, none⟩) 2 (cap - 2 * k), .slice (some ⟨g, o, none⟩) 16 cap, .int .i64 16, .bool false, .bool false, undef, undef, undef, undef, undef, undef, undef, undef, undef, undef, undef, undef, undef, undef, undef, .bool true, .bool true, .slice (some ⟨g, o, none⟩) 16 cap, .func (.func 45) #[] #[.pointer (some ⟨w.heap.size + 1, 0, none⟩)], .int .i64 (2 * (k : Int)), .slice (some ⟨g, o + 2 * k, none⟩) 2 (cap - 2 * k), undef, undef, undef, undef, undef, undef, undef], defers := [] }) ?assign ?body ?done ?stop
  case assign =>
    intro k W K hK
    unfold twoE
    gi_wp2
    exact hK
  case body =>
    rintro pre k W ⟨hb, hc, hx⟩ ⟨q, hq, hpre⟩ hD ⟨R, hL⟩
    obtain ⟨hpl, hkq⟩ := range_snoc hpre
    rw [hpl] at hb
    have HBk := hide hb
    have HCk := hide hc
    have HXk := hide hx
    have HDk := hide hD
    have HLk := hide hL
    have HT := hide (rd_two HV.out HN.out (show k < 8 by omega))
    have HLN := hide (show (pre ++ [k]).length = k + 1 from by rw [List.length_append, hpl]; rfl)
    have HCL := hide (col_len l k)
    have HK := hide (kept_refl W)
    have hk8 : k < 8 := by omega
    have HH := hide (fun W (h : Rd W [] (.slice (some ⟨g, o + 2 * k, none⟩) 2 (cap - 2 * k)) (ints .u8 (byts [l.getD (2 * k) 0, l.getD (2 * k + 1) 0]))) => num_hex W [] _ _ h (by simp))
    have HS := hide (show colV l (k + 1) = colV l k ++ ((if k = 0 then [] else [58]) ++ hexS [l.getD (2 * k) 0, l.getD (2 * k + 1) 0]) from rfl)
    have HHL := hide (hex_two (l.getD (2 * k) 0) (l.getD (2 * k + 1) 0))
    unfold StrPost at HH
    generalize hexS [l.getD (2 * k) 0, l.getD (2 * k + 1) 0] = hx4 at *
    clear hb hc hx hD hL hpl hpre hkq
    by_cases h0 : k = 0
    · subst h0
      gi_wp2_with (first
        | (refine ⟨trivial, ?_⟩; gi_at_call 31; refine (CallsIn.inRound _ (callsIn_wide.2 (HH.out _ (HT.out.only (only_of_below HCk.out) (by simp))))).mono ?_; rintro e w3 ⟨rfl, ho⟩; replace HBk := hide (bd_only HBk.out ho); replace HCk := hide (HCk.out.trans (below_of_only ho HCk.out.size)); replace HK := hide (HK.out.trans (kept_only ho)); clear ho)
        | (refine ⟨trivial, ?_⟩; gi_at_call 28; refine (CallsIn.inRound _ (callsIn_wide.2 (write_string4 w.heap.size w.heap.size _ _ _ HBk.out (by rw [bc_len]; have := HCL.out; have := HHL.out; simp [ByteArray.size]; omega) HCk.out.size))).mono ?_; rintro e w4 ⟨rfl, h1, hb1, hkk⟩; replace HCk := hide (HCk.out.trans hb1); replace HBk := hide (isb_eq h1 (bc_string _ _)); replace HK := hide (HK.out.trans hkk); clear h1 hb1 hkk))
      refine round_end HK.out HDk.out HLk.out HXk.out ⟨?_, HCk.out, kept_blk HK.out HXk.out⟩
      rw [HLN.out]
      exact isb_eq HBk.out (by rw [HS.out]; simp)
    · have hpos : (0 : Int) < 2 * (k : Int) := by omega
      gi_wp2_with (first
        | (refine ⟨trivial, ?_⟩; gi_at_call 27; refine (CallsIn.inRound _ (callsIn_wide.2 (write_byte4 w.heap.size w.heap.size _ _ _ HBk.out (by rw [bc_len]; have := HCL.out; omega) HCk.out.size))).mono ?_; rintro e w3 ⟨rfl, h1, hb1, hkk⟩; replace HCk := hide (HCk.out.trans hb1); replace HBk := hide (isb_eq h1 (bc_push _ 58)); replace HK := hide (HK.out.trans hkk); clear h1 hb1 hkk)
        | (refine ⟨trivial, ?_⟩; gi_at_call 31; refine (CallsIn.inRound _ (callsIn_wide.2 (HH.out _ (HT.out.only (only_of_below HCk.out) (by simp))))).mono ?_; rintro e w3 ⟨rfl, ho⟩; replace HBk := hide (bd_only HBk.out ho); replace HCk := hide (HCk.out.trans (below_of_only ho HCk.out.size)); replace HK := hide (HK.out.trans (kept_only ho)); clear ho)
        | (refine ⟨trivial, ?_⟩; gi_at_call 28; refine (CallsIn.inRound _ (callsIn_wide.2 (write_string4 w.heap.size w.heap.size _ _ _ HBk.out (by rw [bc_len]; have := HCL.out; have := HHL.out; simp [ByteArray.size]; omega) HCk.out.size))).mono ?_; rintro e w4 ⟨rfl, h1, hb1, hkk⟩; replace HCk := hide (HCk.out.trans hb1); replace HBk := hide (isb_eq h1 (bc_string _ _)); replace HK := hide (HK.out.trans hkk); clear h1 hb1 hkk))
      refine round_end HK.out HDk.out HLk.out HXk.out ⟨?_, HCk.out, kept_blk HK.out HXk.out⟩
      rw [HLN.out]
      exact isb_eq HBk.out (by rw [HS.out, if_neg h0]; simp)
  case done =>
    rintro xs W rfl ⟨hb, hc, hx⟩ hD
    rw [List.length_range] at hb
    have HBk := hide hb
    have HCk := hide hc
    clear hb hx
    gi_wp2_with (refine ⟨trivial, ?_⟩; gi_at_call 32; refine (callsIn_wide.2 (Tryd.Builder_String_any_k w.heap.size w.heap.size (colV l 8) _ (Lib.IsBuilderF.of HBk.out) HCk.out.size)).mono ?_; rintro e w4 ⟨rfl, hb2, hb1, hok⟩; have HC4 := hide (HCk.out.trans hb1); have HOK := hide hok; clear hb2 hb1 hok)
    have hD4 := HOK.out _ _ hD (by intro e; injection e with e; have := HSZ.out; omega) (by intro c fz e; cases e)
    refine ⟨by simp, .inl ⟨_, _, rfl, run_takeDeferred hD4, ?_⟩⟩
    exact ⟨_, results_tmp2 rfl _ _ _, txtpost rfl (only_of_below (HC4.out.trans ((only_put w4 w2.heap.size _).below (fun x hx => by have := HSZ.out; simp at hx; omega) HC4.out.size)))⟩
  case stop =>
    rintro c pre W _ h _
    exact h.elim
end
end Go.Proofs.YthecnaclfhfilaaDoor

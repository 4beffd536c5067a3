/-
  Walks and plain words (texts Tr9). No condition beyond those that each theorem states.
-/
import Derived.Sort.CutIn
import Derived.Test.YtokaobilphfdoaaQ07
namespace Go.Proofs.Ytokaobilphfdoaa
section
open Go.RowKit Go.Deep Go.Shelf
attribute [local go_sem] Oper.semAt_some

theorem upd2_self {α : Type} (f : Bool → List Bool → α) (s : Bool) (π : List Bool) (x : α) (h : f s π = x) : upd2 f s π x = f := by
  funext s' π'
  unfold upd2
  split
  · rename_i hc; obtain ⟨rfl, rfl⟩ := hc; exact h.symm
  · rfl
def DelPost (T : Nat) (bl : List Nat) (th : ThF) (ow : OwF) (s : Bool) (π : List Bool) (w : World) (e : Ending) (w' : World) : Prop :=
  e = .returned (.bool (th s π)) ∧ ∃ ad', TrIs w' T bl ad' (upd2 th s π false) (upd2 ow s π 0) ∧ Only bl w w'
theorem del_form (T : Nat) (A : Option Addr) (n cap : Nat) (b : Int) (w : World) (hr : rightN n b = false) : Calls Try.prog 11 #[.pointer (some ⟨T, 0, none⟩), .agg #[.slice A n cap, .int .i64 b]] w fun e w' => e = .returned (.bool false) ∧ Only [] w w' := by
  have HO := hide ((Only.refl [] w).alloc (.cells #[.slice A n cap, .int .i64 b] 29))
  have HRR := hide hr
  clear hr
  go_enter Try.func11, Try.ntmps11
  go_wp2_with (go_at_call 17; refine (right_any _ _ _ _ false HRR.out _).mono ?_; rintro e w1 ⟨rfl, ho⟩; have HC := hide (HO.out.trans ho); clear ho)
  go_ret
  exact ⟨rfl, HC.out⟩
theorem only_stab {bl : List Nat} {D : Nat} {w X Y : World} (h : Only bl w X) (ho : Only [D, D + 1] X Y) (hD : D = w.heap.size) : Only bl w Y :=
  ((h.mono (S' := D :: (D + 1) :: bl) (fun x hx => .inl (by simp [hx]))).trans (ho.mono (S' := D :: (D + 1) :: bl) (fun x hx => .inl (by simp at hx; rcases hx with rfl | rfl <;> simp)))).mono (fun x hx => by
    simp at hx
    rcases hx with rfl | rfl | hx
    · right; omega
    · right; omega
    · left; exact hx)
theorem downL_last {pre : List Nat} {n k q : Nat} (h : pre ++ [k] = downL (n + 1) q) (hq : q ≤ n + 1) : k + pre.length = n ∧ pre.length + 1 = q := by
  have h1 := congrArg List.length h
  rw [downL_len, List.length_append, List.length_singleton] at h1
  have h2 := congrArg (fun l => l[pre.length]?) h
  unfold downL at h2
  simp only [List.getElem?_append_right (Nat.le_refl _), Nat.sub_self, List.getElem?_map] at h2
  rw [List.getElem?_range (by omega)] at h2
  simp at h2
  omega
theorem way_row {w : World} {base e n : Nat} {v : Value} {xs : List Value} (h : w.ownsRow base e 1 v n xs) (hn : 0 < n) :
    ∃ (G cap : Nat) (cur : Array Value), v = .slice (some ⟨G, 0, none⟩) n cap ∧ base ≤ G ∧ Blk w G e cur ∧ n ≤ cap ∧ cap ≤ maxLen ∧ ∀ (i : Nat) (u : Value), xs[i]? = some u → cur[i]? = some u := by
  rcases h.2 with ⟨rfl, rfl⟩ | ⟨G, cap, cur, rfl, hb, hh, hnc, hcm, hsz, hcur⟩
  · omega
  · refine ⟨G, cap, cur, rfl, hb, hh, hnc, hcm, fun i u hu => ?_⟩
    rw [← hcur, List.getElem?_take] at hu
    split at hu
    · rwa [Array.getElem?_toList] at hu
    · cases hu
theorem wayL_get (ad : Ads) (s : Bool) (l : List UInt8) {k i : Nat} (h : i < k) : (wayL ad s l k)[i]? = some (kidV (ad s (pathR l i))) := by
  unfold wayL
  rw [List.getElem?_map, List.getElem?_range h]; rfl

section
variable (T : Nat) (v : Value) (l : List UInt8) (b : Nat) (bl : List Nat) (ad : Ads) (th : ThF) (ow : OwF) (w : World)
set_option maxRecDepth 100000 in
set_option maxHeartbeats 3200000 in
theorem del_none_ (hv : Rd w bl v (ints .u8 (byts l))) (hr : rightV l b = true) (hT : TrIs w T bl ad th ow) (hn : ad (sz l) (pathR l b) = none) :
    Calls Try.prog 11 #[.pointer (some ⟨T, 0, none⟩), .agg #[v, .int .i64 b]] w fun e w' => e = .returned (.bool false) ∧ Only [] w w' := by
  have HO := hide ((Only.refl [] w).alloc (.cells #[v, .int .i64 b] 29))
  have HV := hide (hv.only HO.out (by simp))
  have HBX := hide (Blk.new w 29 #[v, .int .i64 b])
  have HW := hide (fun W (h : Rd W bl v (ints .u8 (byts l))) (h2 : TrIs W T bl ad th ow) => way_any T v l b bl ad th ow W h hr h2)
  have HTR := hide (hT.only HO.out (by simp))
  obtain ⟨A, cap, rfl, hcp, hcm⟩ := hv.formb
  have HRR := hide (show rightN l.length b = true from hr)
  have HN := hide hn
  have qn := fun (W : World) (A : Option Addr) (n c : Nat) => Lib.run_eql_slice_nil (P := Try.prog) W 59 46 A n c 0 0 Try.underlying59
  clear hv hr hT hn
  go_enter Try.func11, Try.ntmps11
  go_wp2_with (first
    | (go_at_call 17; refine (right_any _ _ _ _ true HRR.out _).mono ?_; rintro e w1 ⟨rfl, ho⟩; have HC := hide (HO.out.trans ho); have HV := hide (HV.out.only ho (by simp)); have HTR := hide (HTR.out.only ho (by simp)); have HBX := hide (HBX.out.only ho (by simp)); have c0 := HBX.out.cell 0; have c1 := HBX.out.cell 1; simp at c0 c1; clear ho)
    | (go_at_call 23; refine (HW.out _ HV.out HTR.out).mono ?_; rintro e w2 ⟨ho, hp⟩; obtain ⟨_, rfl⟩ := hp.resolve_right (fun h => by rw [HN.out] at h; cases h.1); have HC := hide (HC.out.trans ho); clear ho hp))
  go_ret
  exact ⟨rfl, HC.out.alloc _⟩
theorem backward_any (A : Option Addr) (n cap : Nat) (w : World) : Calls Try.prog 24 #[.slice A n cap] w fun e w' => e = .returned (.func (.func 31) #[] #[.pointer (some ⟨w.heap.size, 0, none⟩)]) ∧ w.alloc (.cells #[.slice A n cap] 59) = w' := by
  go_enter Try.func24, Try.ntmps24
  go_wp2
  go_ret
  exact ⟨rfl, rfl⟩
set_option maxRecDepth 100000 in
set_option maxHeartbeats 6400000 in
theorem del_some (hv : Rd w bl v (ints .u8 (byts l))) (hr : rightV l b = true) (hT : TrIs w T bl ad th ow) (hs : (ad (sz l) (pathR l b)).isSome = true) (hz : ∀ s π, th s π = false → ow s π = 0) :
    Calls Try.prog 11 #[.pointer (some ⟨T, 0, none⟩), .agg #[v, .int .i64 b]] w (DelPost T bl th ow (sz l) (pathR l b) w) := by
  have HO := hide ((Only.refl [] w).alloc (.cells #[v, .int .i64 b] 29))
  have HV := hide (hv.only HO.out (by simp))
  have HBX := hide (Blk.new w 29 #[v, .int .i64 b])
  have HW := hide (fun W (h : Rd W bl v (ints .u8 (byts l))) (h2 : TrIs W T bl ad th ow) => way_any T v l b bl ad th ow W h hr h2)
  have HTR := hide (hT.only HO.out (by simp))
  have HLT := hide hT.lt
  obtain ⟨A, cap, rfl, hcp, hcm⟩ := hv.formb
  have HRR := hide (show rightN l.length b = true from hr)
  have hb8 := (right_len hr).1
  have hl16 : l.length ≤ 16 := by have := (right_len hr).2; omega
  have hb128 : b ≤ 128 := by omega
  have HB8 := hide hb8
  obtain ⟨p, hp⟩ := Option.isSome_iff_exists.1 hs
  obtain ⟨g, o⟩ := p
  have HP := hide hp
  have HZ := hide hz
  have HRT := hide hr
  have qn := fun (W : World) (A : Option Addr) (n c : Nat) => Lib.run_eql_slice_nil (P := Try.prog) W 59 46 A n c 0 0 Try.underlying59
  clear hv hr hT hs hp hb8 hz
  refine (callsIn_wide (n := 5)).1 ?_
  refine callsIn_of_wp_marks Try.func11 rfl trivial ?_ rfl
  simp only [Try.ntmps11, List.size_toArray, List.length_cons, List.length_nil, Nat.reduceAdd, Nat.reduceSub, Array.replicate_succ, Array.replicate_zero, List.push_toArray, List.append_toArray, List.nil_append, List.cons_append]
  gi_upto_region 4 with (first
    | (refine ⟨trivial, ?_⟩; gi_at_call 17; refine (callsIn_wide.2 (right_any _ _ _ _ true HRR.out _)).mono ?_; rintro e w1 ⟨rfl, ho⟩; have HC := hide (HO.out.trans ho); have HV := hide (HV.out.only ho (by simp)); have HTR := hide (HTR.out.only ho (by simp)); have HBX := hide (HBX.out.only ho (by simp)); have c0 := HBX.out.cell 0; have c1 := HBX.out.cell 1; simp at c0 c1; clear ho)
    | (refine ⟨trivial, ?_⟩; gi_at_call 23; refine (callsIn_wide.2 (HW.out _ HV.out HTR.out)).mono ?_; rintro e w2 ⟨ho, hpp⟩; obtain ⟨_, v2, rfl, hown⟩ := hpp.resolve_left (fun h => by rw [HP.out] at h; cases h.1); obtain ⟨G, cw, cur, rfl, hG, hcur, hcw, hcm2, hget⟩ := way_row hown (Nat.succ_pos _); have HC := hide (HC.out.trans ho); have HTR := hide (HTR.out.only ho (by simp)); have HBX0 := HBX; have HBX := hide (HBX.out.only ho (by simp)); have HV := hide (HV.out.only ho (by simp)); have HCUR := hide hcur; have HCUR0 := HCUR; have HGET := hide (fun i (hi : i < b + 1) => hget i _ (wayL_get ad (sz l) l hi)); have HGE := hide (Nat.le_trans HBX.out.lt (Nat.le_refl _)); have HG1 := hide (Nat.lt_of_lt_of_le HBX.out.lt (Nat.le_refl _)); have HGL := hide hG; have HW1 := hide (show w.heap.size < w1.heap.size from HBX0.out.lt); clear ho hpp hown hcur hget hG))
  have HB5 := hide (Blk.new w2 59 #[.slice (some ⟨G, 0, none⟩) (b + 1) cw])
  have HS2 := hide ((Only.refl [] w2).alloc (.cells #[.slice (some ⟨G, 0, none⟩) (b + 1) cw] 59))
  replace HC := hide (HC.out.trans HS2.out)
  replace HTR := hide (HTR.out.only HS2.out (by simp))
  replace HBX := hide (HBX.out.only HS2.out (by simp))
  replace HV := hide (HV.out.only HS2.out (by simp))
  replace HCUR := hide (HCUR.out.only HS2.out (by simp))
  have HGQ := hide (show G < w2.heap.size from by have h := HCUR0.out.lt; exact h)
  generalize w2.alloc (.cells #[.slice (some ⟨G, 0, none⟩) (b + 1) cw] 59) = w3 at *
  obtain ⟨Q, hQ⟩ : ∃ Q, Q = w2.heap.size := ⟨_, rfl⟩
  rw [← hQ] at HB5 HG1 HGQ ⊢
  clear hQ HS2 HGE HCUR0
  have q0 := HB5.out.cell 0
  have hlast : w3.cell? ⟨G, b, none⟩ = some (.pointer (some ⟨g, o, none⟩)) := by rw [HCUR.out.cell, HGET.out b (Nat.lt_succ_self b), HP.out]; rfl
  obtain ⟨d0, d1, _⟩ := HTR.out.at_ HP.out
  simp at q0
  cases hth : th (sz l) (pathR l b) with
  | false =>
    rw [hth] at d1
    have HTH := hide hth
    clear hth
    gi_wp2_with fail
    have HSL := hide (show upd2 th (sz l) (pathR l b) false = th from upd2_self _ _ _ _ HTH.out)
    have HSO := hide (show upd2 ow (sz l) (pathR l b) 0 = ow from upd2_self _ _ _ _ (HZ.out _ _ HTH.out))
    exact ⟨_, results_tmp rfl _ _ _, by rw [HTH.out]; rfl, ad, by rw [HSL.out, HSO.out]; exact HTR.out, HC.out.mono (by simp)⟩
  | true =>
    rw [hth] at d1
    have HTH := hide hth
    clear hth
    have hgb := HTR.out.ads.mem _ _ _ _ HP.out
    have HGB := hide hgb
    have HNE := hide (show Q ≠ g ∧ w.heap.size ≠ g ∧ G ≠ g from ⟨fun e => by have := HLT.out g hgb; have := HG1.out; omega, fun e => by have := HLT.out g hgb; omega, fun e => by have := HLT.out g hgb; have := HGL.out; have := HW1.out; omega⟩)
    have hf0 := (HTR.out.cells _ _ _ _ HP.out).2.2 0
    have hf1 := (HTR.out.cells _ _ _ _ HP.out).2.2 1
    rw [Nat.add_zero] at hf0
    have HT3 := hide ((HTR.out.set_ow HP.out 0).set_th HP.out false)
    have HC3 := hide (((HC.out.mono (S' := bl) (by simp)).setCell (p := ⟨g, o, none⟩) (.inl hgb) (.int .i64 0)).setCell (p := ⟨g, o + 1, none⟩) (.inl hgb) (.bool false))
    have HO3 := hide (((Only.refl bl w3).setCell (p := ⟨g, o, none⟩) (.inl hgb) (.int .i64 0)).setCell (p := ⟨g, o + 1, none⟩) (.inl hgb) (.bool false))
    clear hgb
    gi_upto_region 8 with (fail)
    generalize (w3.setCell ⟨g, o, none⟩ (.int .i64 0)).setCell ⟨g, o + 1, none⟩ (.bool false) = w4 at *
    have HNB := hide (show Q ∉ bl ∧ w.heap.size ∉ bl ∧ G ∉ bl from ⟨fun e => by have := HLT.out _ e; have := HG1.out; omega, fun e => by have := HLT.out _ e; omega, fun e => by have := HLT.out _ e; have := HGL.out; have := HW1.out; omega⟩)
    replace HB5 := hide (HB5.out.only HO3.out HNB.out.1)
    replace HBX := hide (HBX.out.only HO3.out HNB.out.2.1)
    replace HCUR := hide (HCUR.out.only HO3.out HNB.out.2.2)
    replace HV := hide (HV.out.only HO3.out (fun x hx => hx))
    clear q0 hlast d0 d1 hf0 hf1 HO3
    have q0 := HB5.out.cell 0
    simp at q0
    gi_wp2_with (refine ⟨trivial, ?_⟩; gi_at_call 24; refine (callsIn_wide.2 (backward_any _ _ _ _)).mono ?_; rintro e w5 ⟨rfl, rfl⟩)
    have HB5w := hide (HB5.out.alloc (.cells #[.slice (some ⟨G, 0, none⟩) (b + 1) cw] 59))
    have HBXw := hide (HBX.out.alloc (.cells #[.slice (some ⟨G, 0, none⟩) (b + 1) cw] 59))
    have HCURw := hide (HCUR.out.alloc (.cells #[.slice (some ⟨G, 0, none⟩) (b + 1) cw] 59))
    have HW4 := hide ((Only.refl [] w4).alloc (.cells #[.slice (some ⟨G, 0, none⟩) (b + 1) cw] 59))
    have HVw := hide (HV.out.only HW4.out (by simp))
    have HTw := hide (HT3.out.only HW4.out (by simp))
    have HCw := hide (HC3.out.trans (HW4.out.mono (S' := bl) (by simp)))
    have HBW := hide (Blk.new w4 59 #[.slice (some ⟨G, 0, none⟩) (b + 1) cw])
    have HLw := hide (show ∀ x ∈ bl, x < w4.heap.size from HT3.out.lt)
    have HGw := hide HCUR.out.lt
    have HSZ := hide (show (w4.alloc (.cells #[.slice (some ⟨G, 0, none⟩) (b + 1) cw] 59)).heap.size = w4.heap.size + 1 from by rw [World.size_alloc])
    have HAD := hide (show ∀ k, k ≤ b → ∃ g' o', ad (sz l) (pathR l k) = some (g', o') from fun k hk => by
      cases hc : ad (sz l) (pathR l k) with
      | none =>
        have := path_none HTR.out.ads hc (b - k)
        rw [show k + (b - k) = b by omega, HP.out] at this
        cases this
      | some p => exact ⟨p.1, p.2, rfl⟩)
    have HZ' := hide (show ∀ s π, ((upd2 th (sz l) (pathR l b) false)) s π = false → ((upd2 ow (sz l) (pathR l b) 0)) s π = 0 from fun s π h => by
      unfold upd2 at *
      split
      · rfl
      · rename_i hc; rw [if_neg hc] at h; exact HZ.out s π h)
    clear q0 HTR HT3 HC3 HB5 HBX HCUR HV HW4 HC
    generalize w4.alloc (.cells #[.slice (some ⟨G, 0, none⟩) (b + 1) cw] 59) = w5 at *
    obtain ⟨B, hB⟩ : ∃ B, B = w4.heap.size := ⟨_, rfl⟩
    rw [← hB] at HBW HLw HSZ HGw ⊢
    clear hB
    obtain ⟨th', hth'⟩ : ∃ th', th' = (upd2 th (sz l) (pathR l b) false) := ⟨_, rfl⟩
    obtain ⟨ow', how'⟩ : ∃ ow', ow' = (upd2 ow (sz l) (pathR l b) 0) := ⟨_, rfl⟩
    rw [← hth', ← how'] at HTw
    rw [← hth'] at HZ'
    rw [← how'] at HZ'
    have HTQ := hide hth'
    have HOQ := hide how'
    clear hth' how'
    refine range_priv (gf := (31)) (lb := #[.pointer (some ⟨B, 0, none⟩)]) rfl (enters_of Try.func31 (by kernel_rfl) rfl) (backward_seq _ (b + 1) B G 0 cw (wayL ad (sz l) l (b + 1)) (by omega) hcw) (by simp) (fun W h => ⟨HBW.out.only h (by simp), (HCURw.out.only h (by simp)).lt, fun i hi => by rw [Nat.zero_add, (HCURw.out.only h (by simp)).cell, HGET.out i hi, List.getD, wayL_get ad (sz l) l hi]; rfl⟩) (fun _ => rfl) (fun h1 h2 => ⟨fun o h => h2.1 o (h1.1 o h), fun o h => h2.2 o (h1.2 o h)⟩) (fun W l' o' hl => ⟨fun x hx => (World.putObj_heap_other (by have := HSZ.out; omega)).trans hx, fun x hx => (World.putObj_heap_other (by have := HSZ.out; have := HGw.out; omega)).trans hx⟩)
      (fun pre W => ∃ ad', TrIs W T bl ad' th' ow' ∧ (∀ j, j + pre.length ≤ b → ad' (sz l) (pathR l j) = ad (sz l) (pathR l j)) ∧ pre.length ≤ b ∧ Only bl w5 W)
      (fun c _ W => c = .exit 0 ∧ ∃ ad', TrIs W T bl ad' th' ow' ∧ Only bl w5 W)
      (fun s X Y h ho hk => by
        obtain ⟨ad', h1, h2, h3, h4⟩ := h
        exact ⟨ad', h1.only ho (fun x hx hb => by have := HLw.out x hb; have := HSZ.out; simp at hx; omega), h2, h3, only_stab h4 ho rfl⟩)
      (fun c s X Y h ho hk => by
        obtain ⟨hc, ad', h1, h4⟩ := h
        exact ⟨hc, ad', h1.only ho (fun x hx hb => by have := HLw.out x hb; have := HSZ.out; simp at hx; omega), only_stab h4 ho rfl⟩)
      ⟨_, HTw.out, fun j _ => rfl, Nat.zero_le _, Only.refl bl w5⟩
      (fun k => { tmps := #[.pointer (some ⟨T, 0, none⟩), .agg #[.slice A l.length cap, .int .i64 b], undef, .pointer (some ⟨w.heap.size, 0, none⟩), .bool false, .pointer (some ⟨Q, 0, none⟩), .pointer (some ⟨g, o, none⟩), .int .i64 (k : Int), (wayL ad (sz l) l (b + 1)).getD k undef, .pointer (some ⟨T, 0, none⟩), .bool false, .bool false, .agg #[.slice A l.length cap, .int .i64 b], .bool true, .bool false, .bool false, .pointer (some ⟨T, 0, none⟩), .agg #[.slice A l.length cap, .int .i64 b], .slice (some ⟨G, 0, none⟩) (b + 1) cw, .slice (some ⟨G, 0, none⟩) (b + 1) cw, .bool false, .bool false, .slice (some ⟨G, 0, none⟩) (b + 1) cw, .slice (some ⟨G, 0, none⟩) (b + 1) cw, .int .i64 ((b : Int) + 1), .int .i64 b, .pointer (some ⟨G, b, none⟩), .pointer (some ⟨g, o, none⟩), .pointer (some ⟨g, o, none⟩), .pointer (some ⟨g, o + 1, none⟩), .bool true, .bool false, .bool false, .slice (some ⟨G, 0, none⟩) (b + 1) cw, .slice (some ⟨G, 0, none⟩) (b + 1) cw, .int .i64 ((b : Int) + 1), .int .i64 b, .pointer (some ⟨G, b, none⟩), .pointer (some ⟨g, o, none⟩), .pointer (some ⟨g, o, none⟩), .pointer (some ⟨g, o, none⟩), .pointer (some ⟨g, o, none⟩), .pointer (some ⟨g, o, none⟩), .pointer (some ⟨g, o, none⟩), .pointer (some ⟨g, o + 1, none⟩), .slice (some ⟨G, 0, none⟩) (b + 1) cw, .func (.func 31) #[] #[.pointer (some ⟨B, 0, none⟩)], .int .i64 (k : Int), (wayL ad (sz l) l (b + 1)).getD k undef, undef, undef, undef, undef, undef, undef, undef, undef, undef, undef, undef, undef, undef, undef, undef, undef, undef, undef, undef, undef], defers := [] }) ?assign ?body ?done ?stop
    case assign =>
      intro k W K hK
      unfold backE
      generalize (wayL ad (sz l) l (b + 1)).getD k undef = u at *
      gi_wp2
      exact hK
    case done =>
      rintro xs W rfl ⟨ad', _, _, hl, _⟩
      rw [downL_len] at hl
      omega
    case stop =>
      rintro c pre W _ ⟨rfl, ad', hT', hon⟩ hD
      have HTz := hide hT'
      have HOz := hide hon
      have HDz := hide hD
      clear hT' hon hD
      gi_wp2
      refine ⟨by simp, .inl ⟨_, _, rfl, run_takeDeferred HDz.out, ?_⟩⟩
      have HPZ := hide (only_put W w5.heap.size (.deferred none))
      exact ⟨_, results_tmp rfl _ _ _, by rw [HTH.out]; rfl, ad', by rw [← HTQ.out, ← HOQ.out]; exact HTz.out.only HPZ.out (fun x hx hb => by have := HLw.out x hb; have := HSZ.out; simp at hx; omega), HCw.out.trans (only_stab HOz.out (HPZ.out.mono (fun x hx => .inl (by simp at hx; simp [hx]))) rfl)⟩
    case body =>
      rintro pre k W ⟨ad', hT', hsame, hpl, hon⟩ ⟨q', hq, hpre⟩ hD ⟨R, hL⟩
      obtain ⟨hk1, hk2⟩ := downL_last hpre hq
      have HTk := hide hT'
      have HSM := hide hsame
      have HOk := hide hon
      have HLEN := hide (show (pre ++ [k]).length = pre.length + 1 from by simp)
      have HDE := hide (show pre.length + k = b from by omega)
      have HB5k := hide (HB5w.out.only hon HNB.out.1)
      have HBXk := hide (HBXw.out.only hon HNB.out.2.1)
      have HCURk := hide (HCURw.out.only hon HNB.out.2.2)
      have HBWk := hide (HBW.out.only hon (fun hb => by have := HLw.out _ hb; omega))
      have HVk := hide (HVw.out.only hon (fun x hx => hx))
      have hkb : k ≤ b := by omega
      obtain ⟨gk, ok, hadk⟩ := HAD.out k hkb
      have HGK := hide (show ad' (sz l) (pathR l k) = some (gk, ok) from by rw [hsame k (by omega)]; exact hadk)
      have hval : (wayL ad (sz l) l (b + 1)).getD k undef = .pointer (some ⟨gk, ok, none⟩) := by rw [List.getD, wayL_get ad (sz l) l (show k < b + 1 by omega), hadk]; rfl
      rw [hval]
      have HDk := hide hD
      have HLk := hide hL
      clear hT' hsame hon hpre hk1 hk2 hval hadk hD hL hpl hq
      rcases Nat.eq_zero_or_pos k with hk0 | hk0
      · have he : ((k : Int) == 0) = true := by rw [beq_iff_eq]; omega
        clear hk0
        gi_wp2
        refine ⟨trivial, ?_⟩
        gi_wp2
        exact ⟨⟨rfl, rfl⟩, rfl, ad', HTk.out, HOk.out⟩
      · have hne : ((k : Int) == 0) = false := by rw [beq_eq_false_iff_ne]; omega
        cases hbv : bareV ad' th' (sz l) (pathR l k) with
        | false =>
          have HBV := hide hbv
          clear hbv
          gi_wp2_with (refine ⟨trivial, ?_⟩; gi_at_call 25; refine (CallsIn.inRound _ (callsIn_wide.2 (bare_any T bl ad' th' ow' (sz l) (pathR l k) gk ok W HTk.out HGK.out))).mono ?_; rw [HBV.out]; rintro e w6 ⟨rfl, rfl⟩)
          exact ⟨⟨rfl, rfl⟩, rfl, ad', HTk.out, HOk.out⟩
        | true =>
          have HBV := hide hbv
          obtain ⟨j, rfl⟩ : ∃ j, k = j + 1 := ⟨k - 1, by omega⟩
          obtain ⟨bb, hbb, hpath⟩ := bit_bool l j
          obtain ⟨g1, o1, had1⟩ := HAD.out j (by omega)
          have HG1' := hide (show ad' (sz l) (pathR l j) = some (g1, o1) from by rw [HSM.out j (by have := HDE.out; omega)]; exact had1)
          have HROW := hide (show cur[j]? = some (.pointer (some ⟨g1, o1, none⟩)) from by rw [HGET.out j (by omega), had1]; rfl)
          have hg1b := HTk.out.ads.mem _ _ _ _ HG1'.out
          have HG1B := hide hg1b
          have HNg := hide (show Q ≠ g1 ∧ w.heap.size ≠ g1 ∧ G ≠ g1 from ⟨fun e => HNB.out.1 (e ▸ hg1b), fun e => HNB.out.2.1 (e ▸ hg1b), fun e => HNB.out.2.2 (e ▸ hg1b)⟩)
          have HNB' := hide (show B ≠ g1 ∧ w5.heap.size ≠ g1 ∧ w5.heap.size + 1 ≠ g1 from ⟨fun e => by have := HLw.out _ hg1b; omega, fun e => by have := HLw.out _ hg1b; have := HSZ.out; omega, fun e => by have := HLw.out _ hg1b; have := HSZ.out; omega⟩)
          obtain ⟨q, hqq⟩ : ∃ q, q = bb.toNat := ⟨_, rfl⟩
          have hq2 : q < 2 := by rw [hqq]; cases bb <;> decide
          have HQ := hide hqq
          have HPT := hide hpath
          have HBIT := hide (show bitN l j = q from by rw [hbb, hqq])
          unfold bareV at hbv
          simp only [Bool.and_eq_true, Bool.not_eq_true', Option.isNone_iff_eq_none] at hbv
          have HKN := hide (show ∀ c, ad' (sz l) (c :: bb :: pathR l j) = none from fun c => by rw [← hpath]; cases c; exact hbv.1.2; exact hbv.2)
          have HTF := hide (show th' (sz l) (bb :: pathR l j) = false from by rw [← hpath]; exact hbv.1.1)
          have hfz := (HTk.out.cells _ _ _ _ HG1'.out).2.2 (2 + q)
          rw [← Nat.add_assoc] at hfz
          have hkid := (HTk.out.at_ HG1'.out).2.2 bb
          rw [← hqq, ← Nat.add_assoc, ← hpath, HGK.out] at hkid
          have HKID := hide hkid
          have HFZ := hide hfz
          have HBL := hide (show (j : Nat) < 8 * l.length from by have := HB8.out; omega)
          have hj16 : l.length ≤ 1000 := by omega
          clear hbv hpath hbb had1 hg1b hqq hfz hkid
          gi_upto_region 12 with (refine ⟨trivial, ?_⟩; gi_at_call 25; refine (CallsIn.inRound _ (callsIn_wide.2 (bare_any T bl ad' th' ow' (sz l) (pathR l (j + 1)) gk ok W HTk.out HGK.out))).mono ?_; rw [HBV.out]; rintro e w6 ⟨rfl, rfl⟩)
          refine wpIn_region_held (S := fun W' => Only [g1] W W') (by kernel_rfl) (by kernel_rfl) (fun ⟨_, _, h⟩ => h) ((Only.refl [g1] W).drew) (fun hHeld => ?_)
          have HTd := hide (HTk.out.only ((Only.refl [] W).drew) (by simp))
          have HKIDd := hide ((cell_only ((Only.refl [] W).drew) (HTk.out.lt g1 HG1B.out) (by simp)).trans HKID.out)
          have HFZd := hide ((frozen_only ((Only.refl [] W).drew) (HTk.out.lt g1 HG1B.out) (by simp)).trans HFZ.out)
          generalize W.drew = wd12 at *
          have hwj : IntKind.i64.wrap (j : Int) = (j : Int) := by rw [IntKind.wrap_i64]; have := HDE.out; omega
          have hqI : (q : Int) < 2 := by omega
          have hjb : (j : Int) < (b : Int) + 1 := by have := HDE.out; omega
          refine wpAnyH_take (i := 0) (v := ?_) rfl (by kernel_rfl) (by kernel_rfl) (by kernel_rfl) (fun _ _ _ h => h) (Or.inl ⟨by rfl, ?_⟩) (by assumption) ?_
          rotate_left
          · (intro w hSw; (try dsimp only at hSw); have f0 := (HB5k.out.only hSw (by simpa using HNg.out.1)).cell 0; simp at f0; go_simp; try with_reducible rfl)
          try simp only [List.getElem_toArray, List.getElem_cons_succ, List.getElem_cons_zero, Act.put, List.setIfInBounds_toArray, List.set_cons_zero, List.set_cons_succ]
          refine wpAnyH_take (i := 1) (v := ?_) rfl (by kernel_rfl) (by kernel_rfl) (by kernel_rfl) (fun _ _ _ h => h) (Or.inl ⟨by rfl, ?_⟩) (by assumption) ?_
          rotate_left
          · (intro w hSw; (try dsimp only at hSw); go_simp; try with_reducible rfl)
          try simp only [List.getElem_toArray, List.getElem_cons_succ, List.getElem_cons_zero, Act.put, List.setIfInBounds_toArray, List.set_cons_zero, List.set_cons_succ]
          refine wpAnyH_take (i := 2) (v := ?_) rfl (by kernel_rfl) (by kernel_rfl) (by kernel_rfl) (fun _ _ _ h => h) (Or.inl ⟨by rfl, ?_⟩) (by assumption) ?_
          rotate_left
          · (intro w hSw; (try dsimp only at hSw); go_simp; try with_reducible rfl)
          try simp only [List.getElem_toArray, List.getElem_cons_succ, List.getElem_cons_zero, Act.put, List.setIfInBounds_toArray, List.set_cons_zero, List.set_cons_succ]
          refine wpAnyH_take (i := 3) (v := ?_) rfl (by kernel_rfl) (by kernel_rfl) (by kernel_rfl) (fun _ _ _ h => h) (Or.inl ⟨by rfl, ?_⟩) (by assumption) ?_
          rotate_left
          · (intro w hSw; (try dsimp only at hSw); go_simp; try with_reducible rfl)
          try simp only [List.getElem_toArray, List.getElem_cons_succ, List.getElem_cons_zero, Act.put, List.setIfInBounds_toArray, List.set_cons_zero, List.set_cons_succ]
          refine wpAnyH_take (i := 4) (v := ?_) rfl (by kernel_rfl) (by kernel_rfl) (by kernel_rfl) (fun _ _ _ h => h) (Or.inl ⟨by rfl, ?_⟩) (by assumption) ?_
          rotate_left
          · (intro w hSw; (try dsimp only at hSw); have f1 := (HCURk.out.only hSw (by simpa using HNg.out.2.2)).cell j; rw [HROW.out] at f1; go_simp; try with_reducible rfl)
          try simp only [List.getElem_toArray, List.getElem_cons_succ, List.getElem_cons_zero, Act.put, List.setIfInBounds_toArray, List.set_cons_zero, List.set_cons_succ]
          refine wpAnyH_take (i := 5) (v := ?_) rfl (by kernel_rfl) (by kernel_rfl) (by kernel_rfl) (fun _ _ _ h => h) (Or.inl ⟨by rfl, ?_⟩) (by assumption) ?_
          rotate_left
          · (intro w hSw; (try dsimp only at hSw); go_simp; try with_reducible rfl)
          try simp only [List.getElem_toArray, List.getElem_cons_succ, List.getElem_cons_zero, Act.put, List.setIfInBounds_toArray, List.set_cons_zero, List.set_cons_succ]
          refine wpAnyH_take (i := 6) (v := ?_) rfl (by kernel_rfl) (by kernel_rfl) (by kernel_rfl) (fun _ _ _ h => h) (Or.inl ⟨by rfl, ?_⟩) (by assumption) ?_
          rotate_left
          · (intro w hSw; (try dsimp only at hSw); have f2 := (HBXk.out.only hSw (by simpa using HNg.out.2.1)).cell 0; simp at f2; go_simp; try with_reducible rfl)
          try simp only [List.getElem_toArray, List.getElem_cons_succ, List.getElem_cons_zero, Act.put, List.setIfInBounds_toArray, List.set_cons_zero, List.set_cons_succ]
          refine wpAnyH_take (i := 7) (v := ?_) rfl (by kernel_rfl) (by kernel_rfl) (by kernel_rfl) (fun _ _ _ h => h) (Or.inl ⟨by rfl, ?_⟩) (by assumption) ?_
          rotate_left
          · (intro w hSw; (try dsimp only at hSw); go_simp; try with_reducible rfl)
          try simp only [List.getElem_toArray, List.getElem_cons_succ, List.getElem_cons_zero, Act.put, List.setIfInBounds_toArray, List.set_cons_zero, List.set_cons_succ]
          refine wpAnyH_take (i := 8) (v := ?_) rfl (by kernel_rfl) (by kernel_rfl) (by kernel_rfl) (fun _ _ _ h => h) (Or.inl ⟨by rfl, ?_⟩) (by assumption) ?_
          rotate_left
          · (intro w hSw; (try dsimp only at hSw); go_simp; try with_reducible rfl)
          try simp only [List.getElem_toArray, List.getElem_cons_succ, List.getElem_cons_zero, Act.put, List.setIfInBounds_toArray, List.set_cons_zero, List.set_cons_succ]
          refine wpAnyH_take (i := 10) (v := ?_) rfl (by kernel_rfl) (by kernel_rfl) (by kernel_rfl) (fun _ _ _ h => h) (Or.inl ⟨by rfl, ?_⟩) (by assumption) ?_
          rotate_left
          · (intro w hSw; (try dsimp only at hSw); go_simp; try with_reducible rfl)
          try simp only [List.getElem_toArray, List.getElem_cons_succ, List.getElem_cons_zero, Act.put, List.setIfInBounds_toArray, List.set_cons_zero, List.set_cons_succ]
          refine wpAnyH_take (i := 11) (v := ?_) rfl (by kernel_rfl) (by kernel_rfl) (by kernel_rfl) (fun _ _ _ h => h) (Or.inl ⟨by rfl, ?_⟩) (by assumption) ?_
          rotate_left
          · (intro w hSw; (try dsimp only at hSw); go_simp; try with_reducible rfl)
          try simp only [List.getElem_toArray, List.getElem_cons_succ, List.getElem_cons_zero, Act.put, List.setIfInBounds_toArray, List.set_cons_zero, List.set_cons_succ]
          refine wpAnyH_ready (rs := [9]) (by kernel_rfl) (by simp) ?_
          refine (AllReadyH.cons rfl (fun K hK => ?_) AllReadyH.nil)
          go_simp
          (go_at_call 19; refine (tbit_any _ l bl j _ (HVk.out.only hHeld (by simpa using HG1B.out)) HBL.out hj16).mono ?_; rw [HBIT.out]; rintro e wq ⟨rfl, rfl⟩; have ho := Only.refl [g1] wd12)
          refine hK.out _ _ (by first | exact hHeld.trans ho | exact hHeld.trans (ho.mono (by simp))) (fun hHeldN => ?_)
          clear hK K ho hHeld
          have hHeld := hHeldN
          clear hHeldN
          try simp only [List.getElem_toArray, List.getElem_cons_succ, List.getElem_cons_zero, Act.put, List.setIfInBounds_toArray, List.set_cons_zero, List.set_cons_succ]
          refine wpAnyH_take (i := 12) (v := ?_) rfl (by kernel_rfl) (by kernel_rfl) (by kernel_rfl) (fun _ _ _ h => h) (Or.inl ⟨by rfl, ?_⟩) (by assumption) ?_
          rotate_left
          · (intro w hSw; (try dsimp only at hSw); go_simp; try with_reducible rfl)
          try simp only [List.getElem_toArray, List.getElem_cons_succ, List.getElem_cons_zero, Act.put, List.setIfInBounds_toArray, List.set_cons_zero, List.set_cons_succ]
          refine wpAnyH_ready (rs := [13]) (by kernel_rfl) (by simp) ?_
          refine (AllReadyH.cons rfl (fun K hK => ?_) AllReadyH.nil)
          rw [if_pos (by rfl)]
          have fc := HKIDd.out
          have ff := HFZd.out
          go_simp
          refine hK.out _ _ (by exact hHeld.setCell (p := ⟨g1, o1 + 2 + q, none⟩) (.inl (by simp)) (.pointer none)) (fun hHeldN => ?_)
          clear hK K hHeld
          have hHeld := hHeldN
          clear hHeldN
          try simp only [List.getElem_toArray, List.getElem_cons_succ, List.getElem_cons_zero, Act.put, List.setIfInBounds_toArray, List.set_cons_zero, List.set_cons_succ]
          refine wpAnyH_done (by kernel_rfl) ?_ _
          have HNF := hide (HTd.out.cut HG1'.out bb HTF.out (HZ'.out _ _ HTF.out) HKN.out)
          rw [← HQ.out, ← Nat.add_assoc] at HNF
          refine ⟨⟨hHeld.block _ (Array.getElem?_eq_some_iff.1 HDk.out).1 (by simpa using HNB'.out.2.1), hHeld.block _ (Array.getElem?_eq_some_iff.1 HLk.out).1 (by simpa using HNB'.out.2.2)⟩, ⟨fun x hx => (hHeld.block _ (Array.getElem?_eq_some_iff.1 hx).1 (by simpa using HNB'.out.1)).trans hx, fun x hx => (hHeld.block _ (Array.getElem?_eq_some_iff.1 hx).1 (by simpa using HNg.out.2.2)).trans hx⟩, _, HNF.out, fun i hi => ?_, by rw [HLEN.out]; have := HDE.out; omega, HOk.out.trans (hHeld.mono (fun x hx => .inl (by simp at hx; rw [hx]; exact HG1B.out)))⟩
          rw [HLEN.out] at hi
          rw [upd2_ne _ _ (fun h => by have h2 := congrArg List.length h.2; rw [← HPT.out, path_len, path_len] at h2; have := HDE.out; omega)]
          exact HSM.out i (by omega)
end
end
end Go.Proofs.Ytokaobilphfdoaa

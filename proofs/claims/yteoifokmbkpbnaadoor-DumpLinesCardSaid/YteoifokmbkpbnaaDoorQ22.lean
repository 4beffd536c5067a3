/-
  Walks and plain words (texts Dl0, Hs, Dl1, Dl2, Dl3, Dlj, Dlk). No condition beyond those that each theorem states.
-/
import Derived.StillTailTactics
import Derived.Deep.MidRow
import Derived.Test.YteoifokmbkpbnaaDoorShelf
import Derived.Lib.Join
import Derived.Test.YteoifokmbkpbnaaDoorQ21
namespace Go.Proofs.YteoifokmbkpbnaaDoor
section
open Go.RowKit Go.Deep

def decS (n : Nat) : ByteArray := ⟨(Lib.decDigits n).toArray⟩
def dashB : ByteArray := ⟨#[45]⟩
/-- What is said of a sealed text. -/
def sealW (t : ByteArray) : ByteArray := if kindT t = 10 then (if (bytT ((parT t).getD 1 ByteArray.empty)).2 = true then decS (bytT ((parT t).getD 1 ByteArray.empty)).1.length else dashB) else dashB
theorem seal_parts {t : ByteArray} (h : kindT t = 10) : ∃ p0 p1 p2, parT t = [p0, p1, p2] ∧ p1.size ≤ 65536 := by
  unfold kindT at h
  unfold parT
  cases hp : parseV t with
  | none => rw [hp] at h; exact absurd h (by decide)
  | some nd =>
    rw [hp] at h
    obtain ⟨k, m, b, l⟩ := nd
    obtain ⟨_, _, _, h4, _, _, _, _, h9, _⟩ := read_make hp
    obtain ⟨p0, p1, p2, rfl⟩ := three_of h h4
    have hs := parse_size hp
    have h1 := h9 p1 (by simp)
    exact ⟨p0, p1, p2, rfl, by omega⟩
theorem byt_len (s : ByteArray) : (bytT s).1.length ≤ 65536 := by
  unfold bytT
  cases hp : parseV s with
  | none => simp
  | some nd =>
    obtain ⟨k, m, b, l⟩ := nd
    simp only
    by_cases hk : k = 4
    · rw [if_pos hk]
      have h := (read_make hp).1
      refine Nat.le_of_not_lt fun hb => ?_
      rw [make_data hk hb] at h
      rw [← h, show parseV ByteArray.empty = none by kernel_rfl] at hp
      cases hp
    · rw [if_neg hk]; simp
def SWPost (t : ByteArray) (w : World) (e : Ending) (w' : World) : Prop := e = .returned (.string t) ∧ Only [] w w'
theorem swpost {t u : ByteArray} {w w' : World} (h : t = u) (ho : Only [] w w') : SWPost t w (.returned (.string u)) w' := by subst h; exact ⟨rfl, ho⟩
set_option maxRecDepth 100000 in
set_option maxHeartbeats 6400000 in
theorem sealed_any (w : World) (t : ByteArray) (ht : t.size ≤ maxLen) (htab : Tab w) : Calls Tryd.prog 43 #[.string t] w (SWPost (sealW t) w) := by
  have HK := hide (Kind_any w t ht)
  unfold KindPost at HK
  by_cases hk : kindT t = 10
  · obtain ⟨p0, p1, p2, hp, hs1⟩ := seal_parts hk
    have HV := hide (show sealW t = if (bytT p1).2 = true then decS (bytT p1).1.length else dashB by unfold sealW; rw [if_pos hk, hp]; rfl)
    have HP := hide (fun W => Parts_any W t ht)
    have HB := hide (fun W => Bytes_any W p1 (by unfold maxLen; omega))
    have HL := byt_len p1
    unfold PartsPost at HP
    unfold BytesPost at HB
    rw [hp] at HP
    rw [hk] at HK
    obtain ⟨r, hr⟩ : ∃ r, bytT p1 = r := ⟨_, rfl⟩
    rw [hr] at HV HB HL
    obtain ⟨rl, rb⟩ := r
    simp only at HV HB HL
    have HN := hide (fun W h => print_any rl.length (by omega) W h)
    unfold StrPost at HN
    have HT := hide htab
    have HO := hide (Only.refl [] w)
    clear hk hp hr hs1 ht htab
    cases rb with
    | true =>
      simp only [if_true] at HV
      go_enter Tryd.func43, Tryd.ntmps43
      go_wp2_with (first
        | (go_at_call 62; refine HK.out.mono ?_; rintro e w1 ⟨rfl, ho⟩; replace HO := hide ho; clear ho)
        | (go_at_call 63; refine (HP.out _).mono ?_; rintro e w2 ⟨v, rfl, ho, hrd⟩; replace hrd := hrd [] (by simp); obtain ⟨A2, cp, hv, _, _⟩ := hrd.form; replace hv : v = .slice A2 3 cp := hv; subst hv; obtain ⟨g, o, hA, _, hcl⟩ := rd_strs hrd (by simp); subst hA; have hc1 : w2.cell? ⟨g, o + 1, none⟩ = some (.string p1) := hcl 1 (by simp); replace HO := hide (HO.out.trans ho); clear ho hrd hcl)
        | (go_at_call 64; refine (HB.out _).mono ?_; rintro e w3 ⟨v, rfl, ho, hrd⟩; replace hrd := hrd [] (by simp); obtain ⟨A3, cp3, rfl, _, _⟩ := hrd.formb; replace HO := hide (HO.out.trans ho); clear ho hrd)
        | (go_at_call 33; refine (HN.out _ (HT.out.only HO.out (by simp))).mono ?_; rintro e w4 ⟨rfl, ho⟩; replace HO := hide (HO.out.trans ho); clear ho))
      go_ret
      exact swpost HV.out HO.out
    | false =>
      simp only [Bool.false_eq_true, if_false] at HV
      go_enter Tryd.func43, Tryd.ntmps43
      go_wp2_with (first
        | (go_at_call 62; refine HK.out.mono ?_; rintro e w1 ⟨rfl, ho⟩; replace HO := hide ho; clear ho)
        | (go_at_call 63; refine (HP.out _).mono ?_; rintro e w2 ⟨v, rfl, ho, hrd⟩; replace hrd := hrd [] (by simp); obtain ⟨A2, cp, hv, _, _⟩ := hrd.form; replace hv : v = .slice A2 3 cp := hv; subst hv; obtain ⟨g, o, hA, _, hcl⟩ := rd_strs hrd (by simp); subst hA; have hc1 : w2.cell? ⟨g, o + 1, none⟩ = some (.string p1) := hcl 1 (by simp); replace HO := hide (HO.out.trans ho); clear ho hrd hcl)
        | (go_at_call 64; refine (HB.out _).mono ?_; rintro e w3 ⟨v, rfl, ho, hrd⟩; replace hrd := hrd [] (by simp); obtain ⟨A3, cp3, rfl, _, _⟩ := hrd.formb; replace HO := hide (HO.out.trans ho); clear ho hrd))
      go_ret
      exact swpost HV.out HO.out
  · have HV := hide (show sealW t = dashB by unfold sealW; rw [if_neg hk])
    have hkb : (kindT t != 10) = true := by rw [bne_iff_ne]; exact hk
    generalize kindT t = k at *
    clear hk ht htab
    go_enter Tryd.func43, Tryd.ntmps43
    go_wp2_with (go_at_call 62; refine HK.out.mono ?_; rintro e w1 ⟨rfl, ho⟩; have HO := hide ho; clear ho)
    go_ret
    exact swpost HV.out HO.out
end
section
open Go.RowKit Go.Deep

theorem blk_there {w : World} {g : Nat} {t : TypeId} {cs : Array Value} (h : Blk w g t cs) (n : Nat) (hn : n = cs.size) : w.there g 0 n := by
  subst hn
  intro j hj
  rw [Nat.zero_add, h.cell]
  exact ⟨by simp [hj], h.frozen j⟩
theorem blk_stored {w : World} {g : Nat} {t : TypeId} {cs : Array Value} (h : Blk w g t cs) (l : List Value) (hl : l.length = cs.size) : Blk (w.setCells g 0 l) g t l.toArray := h.setCells_whole hl
theorem only_stored {S : List Nat} {a w : World} {g : Nat} (h : Only S a w) (hg : a.heap.size ≤ g) (l : List Value) : Only S a (w.setCells g 0 l) := Only.setCells (.inr hg) 0 l h
end
section
open Go.RowKit Go.Deep

theorem results_tmp_cell {P : Program} {fn : Func} {p q : Tmp} {ty : TypeId} (h : fn.results = #[.tmp q, .cell p ty]) (tmps : Array Value) (w : World) (g : Nat) (t : TypeId) (cs : Array Value) (fr : Nat × Nat) (d : TypeDesc)
    (hp : tmps.getD p undef = .pointer (some ⟨g, 0, none⟩)) (hg : w.heap[g]? = some (.cells cs t fr))
    (hu : P.underlying ty = some d) (hd : (match d with | .struct _ | .array _ _ => true | _ => false) = true) (hi : (P.info? ty).map (·.size) = some cs.size) :
    (results fn tmps).run P w = .ok (.tuple #[tmps.getD q undef, .agg cs]) w := by
  have hp' : tmps[p]?.getD undef = .pointer (some ⟨g, 0, none⟩) := by simpa using hp
  simp [results, h, hp', asAddr, run_loadVar_row w g t ty cs fr d hg hu hd hi]
def zgD : Mg := ⟨0, 0, 0, 0, noT, noT, noT, noT, noT, noT, noT, noT, noT⟩
/-- The words behind the four numbers. -/
def tailW (cd : Int) (m : Mg) (n : Nat) : List ByteArray :=
  if cd = 0 then (if m.k = 1 then [⟨#[105, 110, 105, 116]⟩, decS m.s] else if m.k = 2 then [⟨#[114, 101, 115, 112, 111, 110, 115, 101]⟩, decS m.s, decS m.r] else if m.k = 3 then [⟨#[99, 111, 111, 107, 105, 101]⟩, decS m.r] else [⟨#[100, 97, 116, 97]⟩, decS m.r, decS m.c, sealW m.x10])
  else [⟨#[114, 97, 119]⟩, decS n]
def wordsW (i f t d : Nat) (cd : Int) (m : Mg) (n : Nat) : List ByteArray := [decS i, decS f, decS t, decS d] ++ tailW cd m n
def joinW (l : List ByteArray) : ByteArray := ⟨(Lib.join (l.map (·.data.toList)) [32]).toArray⟩
def KOPost (cd : Int) (m : Mg) (w : World) (e : Ending) (w' : World) : Prop := e = .returned (.tuple #[.int .i64 (if cd = 0 then m.k else 5), .agg m.cells]) ∧ Only [] w w'
set_option maxRecDepth 100000 in
set_option maxHeartbeats 6400000 in
theorem dkindOf_any (w : World) (bv : Value) (l : List UInt8) (hl : l.length ≤ 3000) (hb : Rd w [] bv (ints .u8 (byts l))) (m : Mg) (hm : (readV l).2 = m.cells) (hz : (readV l).1 ≠ 0 → m = zgD) : Calls Tryd.prog 42 #[bv] w (KOPost (readV l).1 m w) := by
  have HR := hide (fun W h => Read_any W bv l (by omega) h)
  have HB := hide (hb.only ((Only.refl [] w).alloc (.cells #[.int .i64 0, .int .u32 0, .int .u32 0, .int .u64 0, .string ⟨#[]⟩, .string ⟨#[]⟩, .string ⟨#[]⟩, .string ⟨#[]⟩, .string ⟨#[]⟩, .string ⟨#[]⟩, .string ⟨#[]⟩, .string ⟨#[]⟩, .string ⟨#[]⟩] 78)) (by simp))
  have HO0 := hide ((Only.refl [] w).alloc (.cells #[.int .i64 0, .int .u32 0, .int .u32 0, .int .u64 0, .string ⟨#[]⟩, .string ⟨#[]⟩, .string ⟨#[]⟩, .string ⟨#[]⟩, .string ⟨#[]⟩, .string ⟨#[]⟩, .string ⟨#[]⟩, .string ⟨#[]⟩, .string ⟨#[]⟩] 78))
  have HM0 := hide (Blk.new w 78 #[.int .i64 0, .int .u32 0, .int .u32 0, .int .u64 0, .string ⟨#[]⟩, .string ⟨#[]⟩, .string ⟨#[]⟩, .string ⟨#[]⟩, .string ⟨#[]⟩, .string ⟨#[]⟩, .string ⟨#[]⟩, .string ⟨#[]⟩, .string ⟨#[]⟩])
  unfold ReadPostW at HR
  rw [hm] at HR
  obtain ⟨cd, hcd⟩ : ∃ cd, (readV l).1 = cd := ⟨_, rfl⟩
  rw [hcd] at HR hz ⊢
  obtain ⟨A, cap, rfl, _, _⟩ := hb.formb
  clear hm hcd hb hl
  by_cases h0 : cd = 0
  · subst h0
    unfold KOPost
    rw [if_pos rfl]
    obtain ⟨k, s, r, c, x4, x5, x6, x7, x8, x9, x10, x11, x12⟩ := m
    unfold Mg.cells at HR ⊢
    simp only at HR ⊢
    clear hz
    go_enter Tryd.func42, Tryd.ntmps42
    go_upto_region 2 with (go_at_call 61; refine (HR.out _ HB.out).mono ?_; rintro e w1 ⟨rfl, ho⟩; have HO := hide (HO0.out.trans ho); replace HM0 := hide (HM0.out.only ho (by simp)); clear ho)
    have HLT := hide (show w.heap.size < w1.heap.size from HM0.out.lt)
    have HM1 := hide (Blk.new w1 78 #[.int .i64 k, .int .u32 (s : Nat), .int .u32 (r : Nat), .int .u64 (c : Nat), .string x4, .string x5, .string x6, .string x7, .string x8, .string x9, .string x10, .string x11, .string x12])
    replace HM0 := hide (HM0.out.alloc (.cells #[.int .i64 k, .int .u32 (s : Nat), .int .u32 (r : Nat), .int .u64 (c : Nat), .string x4, .string x5, .string x6, .string x7, .string x8, .string x9, .string x10, .string x11, .string x12] 78))
    replace HO := hide (HO.out.alloc (.cells #[.int .i64 k, .int .u32 (s : Nat), .int .u32 (r : Nat), .int .u64 (c : Nat), .string x4, .string x5, .string x6, .string x7, .string x8, .string x9, .string x10, .string x11, .string x12] 78))
    obtain ⟨G, hG⟩ : ∃ G, G = w1.heap.size := ⟨_, rfl⟩
    rw [← hG] at HM1 HLT ⊢
    clear hG
    generalize (w1.alloc (.cells #[.int .i64 k, .int .u32 (s : Nat), .int .u32 (r : Nat), .int .u64 (c : Nat), .string x4, .string x5, .string x6, .string x7, .string x8, .string x9, .string x10, .string x11, .string x12] 78)) = w2 at *
    go_upto_region 4 with fail
    have HMD := hide (show Blk w2.drew w.heap.size 78 #[.int .i64 0, .int .u32 0, .int .u32 0, .int .u64 0, .string ⟨#[]⟩, .string ⟨#[]⟩, .string ⟨#[]⟩, .string ⟨#[]⟩, .string ⟨#[]⟩, .string ⟨#[]⟩, .string ⟨#[]⟩, .string ⟨#[]⟩, .string ⟨#[]⟩] from HM0.out)
    refine wp_region_held_drew (S := fun W => Only [w.heap.size] w2 W) (by kernel_rfl) (by exact (Only.refl [w.heap.size] w2).drew) (fun hHeld => ?_)
    generalize w2.drew = wd at *
    refine wpAnyH_take (i := 0) (v := ?_) rfl (by kernel_rfl) (by kernel_rfl) (by kernel_rfl) (fun _ _ _ h => h) (Or.inl ⟨by rfl, ?_⟩) (by assumption) ?_
    rotate_left
    · (intro wz hSw; (try dsimp only at hSw); go_simp; try with_reducible rfl)
    try simp only [List.getElem_toArray, List.getElem_cons_succ, List.getElem_cons_zero, Act.put, List.setIfInBounds_toArray, List.set_cons_zero, List.set_cons_succ]
    refine wpAnyH_take (i := 1) (v := ?_) rfl (by kernel_rfl) (by kernel_rfl) (by kernel_rfl) (fun _ _ _ h => h) (Or.inl ⟨by rfl, ?_⟩) (by assumption) ?_
    rotate_left
    · (intro wz hSw; (try dsimp only at hSw); have HMw := HM1.out.only hSw (by have := HLT.out; simp; omega); have m0 := HMw.cell 0; have m1 := HMw.cell 1; have m2 := HMw.cell 2; have m3 := HMw.cell 3; have m4 := HMw.cell 4; have m5 := HMw.cell 5; have m6 := HMw.cell 6; have m7 := HMw.cell 7; have m8 := HMw.cell 8; have m9 := HMw.cell 9; have m10 := HMw.cell 10; have m11 := HMw.cell 11; have m12 := HMw.cell 12; simp at m0 m1 m2 m3 m4 m5 m6 m7 m8 m9 m10 m11 m12; go_simp; try with_reducible rfl)
    try simp only [List.getElem_toArray, List.getElem_cons_succ, List.getElem_cons_zero, Act.put, List.setIfInBounds_toArray, List.set_cons_zero, List.set_cons_succ]
    refine wpAnyH_take (i := 2) (v := ?_) rfl (by kernel_rfl) (by kernel_rfl) (by kernel_rfl) (fun _ _ _ h => h) (Or.inl ⟨by rfl, ?_⟩) (by assumption) ?_
    rotate_left
    · (intro wz hSw; (try dsimp only at hSw); have HMw := HM1.out.only hSw (by have := HLT.out; simp; omega); have m0 := HMw.cell 0; have m1 := HMw.cell 1; have m2 := HMw.cell 2; have m3 := HMw.cell 3; have m4 := HMw.cell 4; have m5 := HMw.cell 5; have m6 := HMw.cell 6; have m7 := HMw.cell 7; have m8 := HMw.cell 8; have m9 := HMw.cell 9; have m10 := HMw.cell 10; have m11 := HMw.cell 11; have m12 := HMw.cell 12; simp at m0 m1 m2 m3 m4 m5 m6 m7 m8 m9 m10 m11 m12; go_simp; try with_reducible rfl)
    try simp only [List.getElem_toArray, List.getElem_cons_succ, List.getElem_cons_zero, Act.put, List.setIfInBounds_toArray, List.set_cons_zero, List.set_cons_succ]
    refine wpAnyH_take (i := 3) (v := ?_) rfl (by kernel_rfl) (by kernel_rfl) (by kernel_rfl) (fun _ _ _ h => h) (Or.inl ⟨by rfl, ?_⟩) (by assumption) ?_
    rotate_left
    · (intro wz hSw; (try dsimp only at hSw); go_simp; try with_reducible rfl)
    try simp only [List.getElem_toArray, List.getElem_cons_succ, List.getElem_cons_zero, Act.put, List.setIfInBounds_toArray, List.set_cons_zero, List.set_cons_succ]
    refine wpAnyH_ready (rs := [4]) (by kernel_rfl) (by simp) ?_
    refine (AllReadyH.cons rfl (fun K hK => ?_) AllReadyH.nil)
    rw [if_pos (by rfl)]
    refine wp_store_mid _ _ _ rfl _ _ #[.int .i64 k, .int .u32 (s : Nat), .int .u32 (r : Nat), .int .u64 (c : Nat), .string x4, .string x5, .string x6, .string x7, .string x8, .string x9, .string x10, .string x11, .string x12] rfl rfl (blk_there HMD.out _ rfl) (by kernel_rfl) (by simp [Value.oneCell']) ?_
    have HS3 := hide (show Blk (wd.setCells w.heap.size 0 [.int .i64 k, .int .u32 (s : Nat), .int .u32 (r : Nat), .int .u64 (c : Nat), .string x4, .string x5, .string x6, .string x7, .string x8, .string x9, .string x10, .string x11, .string x12]) _ 78 #[.int .i64 k, .int .u32 (s : Nat), .int .u32 (r : Nat), .int .u64 (c : Nat), .string x4, .string x5, .string x6, .string x7, .string x8, .string x9, .string x10, .string x11, .string x12] from blk_stored HMD.out [.int .i64 k, .int .u32 (s : Nat), .int .u32 (r : Nat), .int .u64 (c : Nat), .string x4, .string x5, .string x6, .string x7, .string x8, .string x9, .string x10, .string x11, .string x12] rfl)
    refine hK.out _ _ (by exact Only.setCells (.inl (by simp)) 0 [.int .i64 k, .int .u32 (s : Nat), .int .u32 (r : Nat), .int .u64 (c : Nat), .string x4, .string x5, .string x6, .string x7, .string x8, .string x9, .string x10, .string x11, .string x12] hHeld) (fun hN => ?_)
    clear hK K hHeld
    have hHeld := hN
    clear hN
    try simp only [List.getElem_toArray, List.getElem_cons_succ, List.getElem_cons_zero, Act.put, List.setIfInBounds_toArray, List.set_cons_zero, List.set_cons_succ]
    refine wpAnyH_done (by kernel_rfl) ?_ _
    replace HO := hide (((HO.out.mono (S' := [w.heap.size]) (by simp)).trans hHeld).mono (S' := []) (fun x hx => .inr (by simp at hx; omega)))
    (repeat go_step)
    refine bodyPost_ret (results_tmp_cell rfl _ _ w.heap.size 78 _ (0, 0) _ rfl HS3.out Tryd.underlying78 rfl (by kernel_rfl)) rfl ?_
    exact ⟨rfl, HO.out⟩
  · have hcb : (cd != 0) = true := bne_iff_ne.2 h0
    obtain rfl := hz h0
    unfold KOPost
    rw [if_neg h0]
    unfold Mg.cells zgD noT at HR ⊢
    simp only at HR ⊢
    clear hz h0
    go_enter Tryd.func42, Tryd.ntmps42
    go_upto_region 2 with (go_at_call 61; refine (HR.out _ HB.out).mono ?_; rintro e w1 ⟨rfl, ho⟩; have HO := hide (HO0.out.trans ho); replace HM0 := hide (HM0.out.only ho (by simp)); clear ho)
    have HLT := hide (show w.heap.size < w1.heap.size from HM0.out.lt)
    have HM1 := hide (Blk.new w1 78 #[.int .i64 0, .int .u32 0, .int .u32 0, .int .u64 0, .string ⟨#[]⟩, .string ⟨#[]⟩, .string ⟨#[]⟩, .string ⟨#[]⟩, .string ⟨#[]⟩, .string ⟨#[]⟩, .string ⟨#[]⟩, .string ⟨#[]⟩, .string ⟨#[]⟩])
    replace HM0 := hide (HM0.out.alloc (.cells #[.int .i64 0, .int .u32 0, .int .u32 0, .int .u64 0, .string ⟨#[]⟩, .string ⟨#[]⟩, .string ⟨#[]⟩, .string ⟨#[]⟩, .string ⟨#[]⟩, .string ⟨#[]⟩, .string ⟨#[]⟩, .string ⟨#[]⟩, .string ⟨#[]⟩] 78))
    replace HO := hide (HO.out.alloc (.cells #[.int .i64 0, .int .u32 0, .int .u32 0, .int .u64 0, .string ⟨#[]⟩, .string ⟨#[]⟩, .string ⟨#[]⟩, .string ⟨#[]⟩, .string ⟨#[]⟩, .string ⟨#[]⟩, .string ⟨#[]⟩, .string ⟨#[]⟩, .string ⟨#[]⟩] 78))
    obtain ⟨G, hG⟩ : ∃ G, G = w1.heap.size := ⟨_, rfl⟩
    rw [← hG] at HM1 HLT ⊢
    clear hG
    generalize (w1.alloc (.cells #[.int .i64 0, .int .u32 0, .int .u32 0, .int .u64 0, .string ⟨#[]⟩, .string ⟨#[]⟩, .string ⟨#[]⟩, .string ⟨#[]⟩, .string ⟨#[]⟩, .string ⟨#[]⟩, .string ⟨#[]⟩, .string ⟨#[]⟩, .string ⟨#[]⟩] 78)) = w2 at *
    go_upto_region 3 with fail
    (first | (refine wpList_store_mid rfl _ _ _ rfl _ 0 #[.int .i64 0, .int .u32 0, .int .u32 0, .int .u64 0, .string ⟨#[]⟩, .string ⟨#[]⟩, .string ⟨#[]⟩, .string ⟨#[]⟩, .string ⟨#[]⟩, .string ⟨#[]⟩, .string ⟨#[]⟩, .string ⟨#[]⟩, .string ⟨#[]⟩] rfl rfl (blk_there HM0.out _ rfl) (by kernel_rfl) (by simp [Value.oneCell']) ?_) | (go_step; refine wpList_store_mid rfl _ _ _ rfl _ 0 #[.int .i64 0, .int .u32 0, .int .u32 0, .int .u64 0, .string ⟨#[]⟩, .string ⟨#[]⟩, .string ⟨#[]⟩, .string ⟨#[]⟩, .string ⟨#[]⟩, .string ⟨#[]⟩, .string ⟨#[]⟩, .string ⟨#[]⟩, .string ⟨#[]⟩] rfl rfl (blk_there HM0.out _ rfl) (by kernel_rfl) (by simp [Value.oneCell']) ?_) | (go_step; go_step; refine wpList_store_mid rfl _ _ _ rfl _ 0 #[.int .i64 0, .int .u32 0, .int .u32 0, .int .u64 0, .string ⟨#[]⟩, .string ⟨#[]⟩, .string ⟨#[]⟩, .string ⟨#[]⟩, .string ⟨#[]⟩, .string ⟨#[]⟩, .string ⟨#[]⟩, .string ⟨#[]⟩, .string ⟨#[]⟩] rfl rfl (blk_there HM0.out _ rfl) (by kernel_rfl) (by simp [Value.oneCell']) ?_) | (go_step; go_step; go_step; refine wpList_store_mid rfl _ _ _ rfl _ 0 #[.int .i64 0, .int .u32 0, .int .u32 0, .int .u64 0, .string ⟨#[]⟩, .string ⟨#[]⟩, .string ⟨#[]⟩, .string ⟨#[]⟩, .string ⟨#[]⟩, .string ⟨#[]⟩, .string ⟨#[]⟩, .string ⟨#[]⟩, .string ⟨#[]⟩] rfl rfl (blk_there HM0.out _ rfl) (by kernel_rfl) (by simp [Value.oneCell']) ?_) | (go_step; go_step; go_step; go_step; refine wpList_store_mid rfl _ _ _ rfl _ 0 #[.int .i64 0, .int .u32 0, .int .u32 0, .int .u64 0, .string ⟨#[]⟩, .string ⟨#[]⟩, .string ⟨#[]⟩, .string ⟨#[]⟩, .string ⟨#[]⟩, .string ⟨#[]⟩, .string ⟨#[]⟩, .string ⟨#[]⟩, .string ⟨#[]⟩] rfl rfl (blk_there HM0.out _ rfl) (by kernel_rfl) (by simp [Value.oneCell']) ?_) | (go_step; go_step; go_step; go_step; go_step; refine wpList_store_mid rfl _ _ _ rfl _ 0 #[.int .i64 0, .int .u32 0, .int .u32 0, .int .u64 0, .string ⟨#[]⟩, .string ⟨#[]⟩, .string ⟨#[]⟩, .string ⟨#[]⟩, .string ⟨#[]⟩, .string ⟨#[]⟩, .string ⟨#[]⟩, .string ⟨#[]⟩, .string ⟨#[]⟩] rfl rfl (blk_there HM0.out _ rfl) (by kernel_rfl) (by simp [Value.oneCell']) ?_) | (go_step; go_step; go_step; go_step; go_step; go_step; refine wpList_store_mid rfl _ _ _ rfl _ 0 #[.int .i64 0, .int .u32 0, .int .u32 0, .int .u64 0, .string ⟨#[]⟩, .string ⟨#[]⟩, .string ⟨#[]⟩, .string ⟨#[]⟩, .string ⟨#[]⟩, .string ⟨#[]⟩, .string ⟨#[]⟩, .string ⟨#[]⟩, .string ⟨#[]⟩] rfl rfl (blk_there HM0.out _ rfl) (by kernel_rfl) (by simp [Value.oneCell']) ?_) | (go_step; go_step; go_step; go_step; go_step; go_step; go_step; refine wpList_store_mid rfl _ _ _ rfl _ 0 #[.int .i64 0, .int .u32 0, .int .u32 0, .int .u64 0, .string ⟨#[]⟩, .string ⟨#[]⟩, .string ⟨#[]⟩, .string ⟨#[]⟩, .string ⟨#[]⟩, .string ⟨#[]⟩, .string ⟨#[]⟩, .string ⟨#[]⟩, .string ⟨#[]⟩] rfl rfl (blk_there HM0.out _ rfl) (by kernel_rfl) (by simp [Value.oneCell']) ?_) | (go_step; go_step; go_step; go_step; go_step; go_step; go_step; go_step; refine wpList_store_mid rfl _ _ _ rfl _ 0 #[.int .i64 0, .int .u32 0, .int .u32 0, .int .u64 0, .string ⟨#[]⟩, .string ⟨#[]⟩, .string ⟨#[]⟩, .string ⟨#[]⟩, .string ⟨#[]⟩, .string ⟨#[]⟩, .string ⟨#[]⟩, .string ⟨#[]⟩, .string ⟨#[]⟩] rfl rfl (blk_there HM0.out _ rfl) (by kernel_rfl) (by simp [Value.oneCell']) ?_) | (go_step; go_step; go_step; go_step; go_step; go_step; go_step; go_step; go_step; refine wpList_store_mid rfl _ _ _ rfl _ 0 #[.int .i64 0, .int .u32 0, .int .u32 0, .int .u64 0, .string ⟨#[]⟩, .string ⟨#[]⟩, .string ⟨#[]⟩, .string ⟨#[]⟩, .string ⟨#[]⟩, .string ⟨#[]⟩, .string ⟨#[]⟩, .string ⟨#[]⟩, .string ⟨#[]⟩] rfl rfl (blk_there HM0.out _ rfl) (by kernel_rfl) (by simp [Value.oneCell']) ?_))
    have HS3 := hide (show Blk (w2.setCells w.heap.size 0 [.int .i64 0, .int .u32 0, .int .u32 0, .int .u64 0, .string ⟨#[]⟩, .string ⟨#[]⟩, .string ⟨#[]⟩, .string ⟨#[]⟩, .string ⟨#[]⟩, .string ⟨#[]⟩, .string ⟨#[]⟩, .string ⟨#[]⟩, .string ⟨#[]⟩]) _ 78 #[.int .i64 0, .int .u32 0, .int .u32 0, .int .u64 0, .string ⟨#[]⟩, .string ⟨#[]⟩, .string ⟨#[]⟩, .string ⟨#[]⟩, .string ⟨#[]⟩, .string ⟨#[]⟩, .string ⟨#[]⟩, .string ⟨#[]⟩, .string ⟨#[]⟩] from blk_stored HM0.out [.int .i64 0, .int .u32 0, .int .u32 0, .int .u64 0, .string ⟨#[]⟩, .string ⟨#[]⟩, .string ⟨#[]⟩, .string ⟨#[]⟩, .string ⟨#[]⟩, .string ⟨#[]⟩, .string ⟨#[]⟩, .string ⟨#[]⟩, .string ⟨#[]⟩] rfl)
    replace HO := hide (only_stored HO.out (Nat.le_refl _) [.int .i64 0, .int .u32 0, .int .u32 0, .int .u64 0, .string ⟨#[]⟩, .string ⟨#[]⟩, .string ⟨#[]⟩, .string ⟨#[]⟩, .string ⟨#[]⟩, .string ⟨#[]⟩, .string ⟨#[]⟩, .string ⟨#[]⟩, .string ⟨#[]⟩])
    generalize (w2.setCells w.heap.size 0 [.int .i64 0, .int .u32 0, .int .u32 0, .int .u64 0, .string ⟨#[]⟩, .string ⟨#[]⟩, .string ⟨#[]⟩, .string ⟨#[]⟩, .string ⟨#[]⟩, .string ⟨#[]⟩, .string ⟨#[]⟩, .string ⟨#[]⟩, .string ⟨#[]⟩]) = w3 at *
    (repeat go_step)
    refine bodyPost_ret (results_tmp_cell rfl _ _ w.heap.size 78 _ (0, 0) _ rfl HS3.out Tryd.underlying78 rfl (by kernel_rfl)) rfl ?_
    exact ⟨rfl, HO.out⟩
end
section
open Go.RowKit Go.Deep

def wordS (n : Nat) : ByteArray := ⟨#[32]⟩ ++ decS n
set_option maxRecDepth 100000 in
set_option maxHeartbeats 3200000 in
theorem word_any24 (w : World) (n : Nat) (hn : n < 18446744073709551616) : Calls Tryd.prog 45 #[.int .u64 (n : Nat)] w (SWPost (wordS n) w) := by
  have HP := hide (print_ref n hn w)
  unfold StrPost at HP
  have hd := dec_len n hn
  obtain ⟨S, hS⟩ : ∃ S : ByteArray, S = decS n := ⟨_, rfl⟩
  have hsz : S.size ≤ 20 := by rw [hS]; simpa [decS, ByteArray.size] using hd
  rw [show (⟨(Lib.decDigits n).toArray⟩ : ByteArray) = S from by rw [hS]; rfl] at HP
  have HW := hide (show wordS n = ⟨#[32]⟩ ++ S by rw [hS]; rfl)
  have hov : ¬ 9223372036854775807 < 1 + S.size := by omega
  clear hS hd hn
  go_enter Tryd.func45, Tryd.ntmps45
  go_wp2_with (go_at_call 37; refine HP.out.mono ?_; rintro e w1 ⟨rfl, ho⟩; have HO := hide ho; clear ho)
  go_ret
  exact swpost HW.out HO.out
end
section
open Go.RowKit Go.Deep

set_option maxRecDepth 100000 in
set_option maxHeartbeats 3200000 in
theorem Line_neg (w : World) (i f t d : Int) (bv : Value) (h : i < 0 ∨ f < 0 ∨ t < 0 ∨ d < 0) : Calls Tryd.prog 20 #[.int .i64 i, .agg #[.int .i64 f, .int .i64 t, bv, .int .i64 d]] w fun e w' => e = .returned (.tuple #[.string ⟨#[]⟩, .int .i64 2]) ∧ Only [] w w' := by
  have HO := hide ((Only.refl [] w).alloc (.cells #[.int .i64 f, .int .i64 t, bv, .int .i64 d] 46))
  have HB := hide (Blk.new w 46 #[.int .i64 f, .int .i64 t, bv, .int .i64 d])
  go_enter Tryd.func20, Tryd.ntmps20
  go_upto_region 1 with fail
  generalize (w.alloc (.cells #[.int .i64 f, .int .i64 t, bv, .int .i64 d] 46)) = v0 at *
  have c0 := HB.out.cell 0; have c1 := HB.out.cell 1; have c3 := HB.out.cell 3; simp at c0 c1 c3
  by_cases h1 : i < 0
  · go_wp2_with fail
    go_ret2
    exact ⟨rfl, HO.out⟩
  · by_cases h2 : f < 0
    · go_wp2_with fail
      go_ret2
      exact ⟨rfl, HO.out⟩
    · by_cases h3 : t < 0
      · go_wp2_with fail
        go_ret2
        exact ⟨rfl, HO.out⟩
      · have h4 : d < 0 := by omega
        go_wp2_with fail
        go_ret2
        exact ⟨rfl, HO.out⟩
end
section
open Go.RowKit Go.Deep

theorem lens_small (l : List ByteArray) (hs : ∀ p ∈ l, p.size ≤ 100000) : Lib.lens (l.map (·.data.toList)) ≤ 100000 * l.length := by
  induction l with
  | nil => simp [Lib.lens]
  | cons a r ih =>
    have h1 := hs a List.mem_cons_self
    have h2 := ih (fun p hp => hs p (List.mem_cons_of_mem _ hp))
    unfold Lib.lens at h2 ⊢
    rw [List.map_cons, List.map_cons, List.sum_cons, List.length_cons]
    have h3 : a.data.toList.length = a.size := rfl
    rw [h3]
    omega
theorem join_own (w : World) (B : Nat) (A : Option Addr) (c : Nat) (l : List ByteArray) (h : w.ownsRow B 9 1 (.slice A l.length c) l.length (strs l)) (hl : l.length ≤ 100) (h0 : 0 < l.length) (hs : ∀ p ∈ l, p.size ≤ 100000) : Calls Tryd.prog 44 #[.slice A l.length c, .string ⟨#[32]⟩] w (SWPost (joinW l) w) := by
  obtain ⟨g, cap, hv, hb, hlt⟩ := h.form h0
  injection hv with e1 _ e3
  subst e1 e3
  refine (Tryd.strings_Join g 0 c l ⟨#[32]⟩ w (fun j x hj => ?_) hlt (by omega) ?_ ?_).mono fun e w' he => ⟨he.1, Only.of_below he.2⟩
  · obtain ⟨_, _, hcl⟩ := rd_strs (Rd.of_own (N := []) h (by simp)).1 h0
    obtain ⟨hA, _, hcl⟩ := hcl
    have hjl := (List.getElem?_eq_some_iff.1 hj).1
    have h3 := hcl j hjl
    injection hA with hA
    injection hA with e1 e2
    subst e1 e2
    rw [h3, List.getD_eq_getElem?_getD, hj]
    rfl
  · obtain ⟨_, _, hv, hc, _⟩ := own_form h
    injection hv with _ _ h3
    omega
  · cases l with
    | nil => simp at h0
    | cons a r =>
      rw [List.map_cons, Lib.join_length]
      have := lens_small (a :: r) hs
      rw [List.map_cons] at this
      have h5 : ((⟨#[32]⟩ : ByteArray).data.toList).length = 1 := rfl
      rw [h5, List.length_map]
      simp only [List.length_cons] at this hl
      omega
end
section
open Go.RowKit Go.Deep

theorem info_str24 : (Tryd.prog.info? 9).map (fun i => (i.zero, i.size, i.bytes)) = some (some (.string ByteArray.empty), 1, 16) := by kernel_rfl
theorem wpList_str_append {W : World} {cs : Array Value} {ops : Array Oper} {rest : List Oper} {o : Oper} {a : Act} {Q : Exit → Act → World → Prop} (hgd : o.guard = none) (s x : Operand)
    (ho : o.op = .call { callee := .builtin .append, args := #[s, x], argTypes := #[80, 80] }) (base : Nat) (v : Value) (xs ys : List ByteArray) (hcs : cs = (strs ys).toArray) (m : Nat) (hm : m = ys.length) (hs : a.eval s = v) (hown : W.ownsRow base 9 1 v xs.length (strs xs)) (hl : xs.length ≤ 1000) (hy : ys.length ≤ 1000) (hbase : base ≤ W.heap.size)
    (hx : a.eval x = .slice (some ⟨W.heap.size, 0, none⟩) m m)
    (hK : ∀ v' w', w'.ownsRow base 9 1 v' (xs ++ ys).length (strs (xs ++ ys)) → (∀ S a', Only S a' W → (∀ q, base ≤ q → q ∈ S ∨ a'.heap.size ≤ q) → Only S a' w') → wpList Tryd.prog ops Q rest (a.put o.dst v') w') : wpList Tryd.prog ops Q (o :: rest) a (W.alloc (.cells cs 9)) := by
  subst hcs hm
  obtain ⟨i, hi, hz, hs1, hby⟩ := info_parts info_str24
  have hr : Reads (W.alloc (.cells (strs ys).toArray 9)) (W.heap.size + 1) 1 (some ⟨W.heap.size, 0, none⟩) ys.length (strs ys) :=
    ⟨by simp [strs], fun _ => ⟨_, rfl, Nat.lt_succ_self _, fun j u hu => by rw [add_mk, Nat.zero_add, (Blk.new W 9 (strs ys).toArray).cell]; simpa using hu⟩⟩
  refine wpList_append_any (P := Tryd.prog) _ hgd s x 80 ho base 9 i (.string ByteArray.empty) 1 16 Tryd.underlying80 hi hz hs1 hby rfl (by decide) v xs.length (strs xs) hs (hown.alloc _) (W.heap.size + 1) (some ⟨W.heap.size, 0, none⟩) ys.length ys.length (strs ys) hx hr (by intro u hu; simp [strs] at hu; obtain ⟨z, _, rfl⟩ := hu; rfl) (by unfold maxLen; omega) (by omega) (by simp; omega) ?_
  intro v' w' h1 h2 _
  refine hK v' w' (by rw [List.length_append, show strs (xs ++ ys) = strs xs ++ strs ys by simp [strs]]; exact h1) (fun S a' hoa hq => (hoa.alloc _).grown h2 (fun k hk => hq k (own_block_ge hown hk)))
theorem own_four24 {w : World} {g : Nat} {a b c d : ByteArray} (h : Blk w g 9 #[.string a, .string b, .string c, .string d]) : w.ownsRow g 9 1 (.slice (some ⟨g, 0, none⟩) 4 4) [a, b, c, d].length (strs [a, b, c, d]) :=
  ⟨rfl, .inr ⟨g, 4, _, rfl, Nat.le_refl _, h, Nat.le_refl _, by unfold maxLen; omega, rfl, rfl⟩⟩
theorem print_dec (w : World) (n : Nat) (hn : n < 18446744073709551616) (htab : Tab w) : Calls Tryd.prog 33 #[.int .u64 (n : Nat)] w (SWPost (decS n) w) := print_any n hn w htab
theorem step_str_append {w : World} {ops : Array Oper} {o : Oper} {a : Act} {K : Act → World → Prop} {Q : Exit → Act → World → Prop} {E : Prop} (hgd : o.guard = none) (s x : Operand)
    (ho : o.op = .call { callee := .builtin .append, args := #[s, x], argTypes := #[80, 80] }) (W0 : Nat) (xs ys : List ByteArray) (c : Nat) (hs : a.eval s = .slice (some ⟨W0, 0, none⟩) xs.length c)
    (hown : w.ownsRow W0 9 1 (.slice (some ⟨W0, 0, none⟩) xs.length c) xs.length (strs xs)) (g m : Nat) (hm : ys.length = m) (hx : a.eval x = .slice (some ⟨g, 0, none⟩) m m) (hb : Blk w g 9 (strs ys).toArray) (hl : xs.length ≤ 1000) (hy : ys.length ≤ 1000) (hbase : W0 ≤ w.heap.size)
    (hK : ∀ v' w', w'.ownsRow W0 9 1 v' (xs ++ ys).length (strs (xs ++ ys)) → (∀ S a', Only S a' w → W0 ∈ S → Only S a' w') → K (a.put o.dst v') w') :
    if Region.wanted o (yielded ops a.tmps) = true then Oper.wp Tryd.prog o a w K Q else E := by
  subst hm
  obtain ⟨i, hi, hz, hs1, hby⟩ := info_parts info_str24
  have hr : Reads w w.heap.size 1 (some ⟨g, 0, none⟩) ys.length (strs ys) :=
    ⟨by simp [strs], fun _ => ⟨_, rfl, hb.lt, fun j u hu => by rw [add_mk, Nat.zero_add, hb.cell]; simpa using hu⟩⟩
  refine step_append_any (P := Tryd.prog) w hgd s x 80 ho W0 9 i (.string ByteArray.empty) 1 16 Tryd.underlying80 hi hz hs1 hby rfl (by decide) _ xs.length (strs xs) hs hown w.heap.size (some ⟨g, 0, none⟩) ys.length ys.length (strs ys) hx hr (by intro u hu; simp [strs] at hu; obtain ⟨z, _, rfl⟩ := hu; rfl) (by unfold maxLen; omega) (by omega) hbase ?_
  intro v' w' h1 h2 _
  refine hK v' w' (by rw [List.length_append, show strs (xs ++ ys) = strs xs ++ strs ys by simp [strs]]; exact h1) (fun S a' hoa hq => hoa.grown h2 (fun k hk => .inl (by simp [Value.ownBlock] at hk; subst hk; exact hq)))
theorem only_in {w a b : World} {g : Nat} (h : Only [] w a) (k : Only [g] a b) (hg : w.heap.size ≤ g) : Only [] w b :=
  ((h.mono (S' := [g]) (by simp)).trans k).mono (fun x hx => .inr (by simp at hx; omega))
theorem decS_size (n : Nat) (h : n < 18446744073709551616) : (decS n).size ≤ 100000 := by
  have := dec_len n h
  have e : (decS n).size = (Lib.decDigits n).length := by simp [decS, ByteArray.size]
  omega
theorem sealW_size (t : ByteArray) : (sealW t).size ≤ 100000 := by
  unfold sealW
  split
  · split
    · exact decS_size _ (by have := byt_len ((parT t).getD 1 ByteArray.empty); omega)
    · decide
  · decide
theorem kind14 {l : List UInt8} {m : Mg} (hm : (readV l).2 = m.cells) (h : (readV l).1 = 0) : 1 ≤ m.k ∧ m.k ≤ 4 := by
  obtain ⟨m', h1, _, h2, _⟩ := read_right (l := l) (cs := m.cells) (by rw [← hm, ← h])
  have e : m' = m := cells_inj h1.symm
  subst e
  simp only [rightM, Bool.and_eq_true, decide_eq_true_eq] at h2
  omega
theorem tail_kk (cd : Int) (m : Mg) (n : Nat) (h : cd = 0 → 1 ≤ m.k ∧ m.k ≤ 4) :
    ((if cd = 0 then m.k else 5) = 1 → tailW cd m n = [⟨#[105, 110, 105, 116]⟩, decS m.s]) ∧ ((if cd = 0 then m.k else 5) = 2 → tailW cd m n = [⟨#[114, 101, 115, 112, 111, 110, 115, 101]⟩, decS m.s, decS m.r]) ∧ ((if cd = 0 then m.k else 5) = 3 → tailW cd m n = [⟨#[99, 111, 111, 107, 105, 101]⟩, decS m.r]) ∧
    ((if cd = 0 then m.k else 5) = 4 → tailW cd m n = [⟨#[100, 97, 116, 97]⟩, decS m.r, decS m.c, sealW m.x10]) ∧ (¬ (if cd = 0 then m.k else 5) = 1 ∧ ¬ (if cd = 0 then m.k else 5) = 2 ∧ ¬ (if cd = 0 then m.k else 5) = 3 ∧ ¬ (if cd = 0 then m.k else 5) = 4 → tailW cd m n = [⟨#[114, 97, 119]⟩, decS n]) := by
  unfold tailW
  by_cases h0 : cd = 0
  · have hk := h h0
    simp only [if_pos h0]
    refine ⟨fun e => by rw [if_pos e], fun e => by rw [if_neg (by omega), if_pos e], fun e => by rw [if_neg (by omega), if_neg (by omega), if_pos e], fun e => by rw [if_neg (by omega), if_neg (by omega), if_neg (by omega)], fun e => absurd e (by omega)⟩
  · simp only [if_neg h0]
    exact ⟨fun e => absurd e (by decide), fun e => absurd e (by decide), fun e => absurd e (by decide), fun e => absurd e (by decide), fun _ => by first | rfl | trivial⟩
def LPost (t : ByteArray) (w : World) (e : Ending) (w' : World) : Prop := e = .returned (.tuple #[.string t, .int .i64 0]) ∧ Only [] w w'
theorem lpost {t u : ByteArray} {w w' : World} (h : t = u) (ho : Only [] w w') : LPost t w (.returned (.tuple #[.string u, .int .i64 0])) w' := by subst h; exact ⟨rfl, ho⟩
end
end Go.Proofs.YteoifokmbkpbnaaDoor

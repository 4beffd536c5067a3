/-
  Walks and plain words (texts Ad0, Py1, Wa). No condition beyond those that each theorem states.
-/
import Derived.Test.YtcokjoidpnfjhaaGreatDoorChecked
import Derived.Lib.SliceRun
import Derived.Test.YtcokjoidpnfjhaaGreatDoorA06
namespace Go.Proofs.YtcokjoidpnfjhaaGreatDoor
section
open Go.RowKit Go.Deep


theorem address_is (A : Option Addr) (n cap : Nat) (r : Bool) (hr : (decide (n = 4) || decide (n = 16)) = r) (w : World) : Calls Tryz.prog 146 #[.slice A n cap] w fun e w' => e = .returned (.bool r) ∧ w = w' := by
  have h1 : ((n : Int) == 4) = decide (n = 4) := by
    by_cases h : n = 4
    · subst h; rfl
    · rw [decide_eq_false h, beq_eq_false_iff_ne]; omega
  have h2 : ((n : Int) == 16) = decide (n = 16) := by
    by_cases h : n = 16
    · subst h; rfl
    · rw [decide_eq_false h, beq_eq_false_iff_ne]; omega
  by_cases k1 : n = 4
  · have e1 : ((n : Int) == 4) = true := by rw [h1]; exact decide_eq_true k1
    have HB := hide (show r = true by rw [← hr, decide_eq_true k1]; rfl)
    clear h1 h2 k1 hr
    go_enter Tryz.func146, Tryz.ntmps146
    go_wp2
    go_ret
    exact ⟨by rw [HB.out]; rfl, rfl⟩
  · have e1 : ((n : Int) == 4) = false := by rw [h1]; exact decide_eq_false k1
    have HB := hide (show decide (n = 16) = r by rw [← hr, decide_eq_false k1]; rfl)
    generalize hb : decide (n = 16) = b at *
    clear h1 k1 hb hr
    go_enter Tryz.func146, Tryz.ntmps146
    go_wp2
    go_ret
    exact ⟨by rw [HB.out]; rfl, rfl⟩

def rightN (n : Nat) (b : Int) : Bool := (decide (n = 4) || decide (n = 16)) && decide (0 ≤ b) && decide (b ≤ 8 * (n : Int))
theorem right_any (A : Option Addr) (n cap : Nat) (b : Int) (r : Bool) (hr : rightN n b = r) (w : World) : Calls Tryz.prog 70 #[.agg #[.slice A n cap, .int .i64 b]] w fun e w' => e = .returned (.bool r) ∧ Only [] w w' := by
  have HO := hide ((Only.refl [] w).alloc (.cells #[.slice A n cap, .int .i64 b] 69))
  by_cases k1 : n = 4 ∨ n = 16
  · have HA := hide (show (decide (n = 4) || decide (n = 16)) = true by rcases k1 with rfl | rfl <;> rfl)
    by_cases k2 : 0 ≤ b
    · have HR := hide (show decide (b ≤ 8 * (n : Int)) = r by rw [← hr]; unfold rightN; rw [HA.out, decide_eq_true k2]; rfl)
      clear hr
      have k4 : 8 * (n : Int) ≤ 128 := by omega
      clear k1
      go_enter Tryz.func70, Tryz.ntmps70
      go_wp2_with (go_at_call 146; refine (address_is _ _ _ true HA.out _).mono ?_; rintro e w1 ⟨rfl, rfl⟩)
      go_ret
      exact ⟨by rw [← HR.out]; rfl, HO.out⟩
    · have HR := hide (show false = r by rw [← hr]; unfold rightN; rw [HA.out, decide_eq_false k2]; rfl)
      clear hr k1
      go_enter Tryz.func70, Tryz.ntmps70
      go_wp2_with (go_at_call 146; refine (address_is _ _ _ true HA.out _).mono ?_; rintro e w1 ⟨rfl, rfl⟩)
      go_ret
      exact ⟨by rw [HR.out]; rfl, HO.out⟩
  · have HA := hide (show (decide (n = 4) || decide (n = 16)) = false by rw [decide_eq_false (fun h => k1 (.inl h)), decide_eq_false (fun h => k1 (.inr h))]; rfl)
    have HR := hide (show false = r by rw [← hr]; unfold rightN; rw [HA.out]; rfl)
    clear hr k1
    go_enter Tryz.func70, Tryz.ntmps70
    go_wp2_with (go_at_call 146; refine (address_is _ _ _ false HA.out _).mono ?_; rintro e w1 ⟨rfl, rfl⟩)
    go_ret
    exact ⟨by rw [HR.out]; rfl, HO.out⟩
end
section
open Go.RowKit Go.Deep

/-- An empty ring of 32 places. -/
def RingE (w : World) (b g : Nat) : Prop := Blk w b 240 #[.slice (some ⟨g, 0, none⟩) 32 32, .int .i64 0, .int .i64 0] ∧ Blk w g 37 (Array.replicate 32 (.slice none 0 0))
theorem RingE.only {S : List Nat} {w w' : World} {b g : Nat} (h : RingE w b g) (ho : Only S w w') (hb : b ∉ S) (hg : g ∉ S) : RingE w' b g := ⟨h.1.only ho hb, h.2.only ho hg⟩
theorem info_bs : (Tryz.prog.info? 37).map (fun i => (i.zero, i.size, i.bytes)) = some (some (.slice none 0 0), 1, 24) := by kernel_rfl
set_option maxRecDepth 100000 in
set_option maxHeartbeats 12800000 in
theorem ring8_newn (n : Nat) (h1 : 1 ≤ n) (h2 : n ≤ 4096) (w : World) : Calls Tryz.prog 71 #[.int .i64 n] w fun e w' => e = .returned (.tuple #[.pointer (some ⟨w.heap.size + 1, 0, none⟩), .int .i64 0]) ∧ (Blk w' (w.heap.size + 1) 240 #[.slice (some ⟨w.heap.size, 0, none⟩) n n, .int .i64 0, .int .i64 0] ∧ Blk w' w.heap.size 37 (Array.replicate n (.slice none 0 0))) ∧ Only [] w w' := by
  have hmk := fun W => run_make_row' (P := Tryz.prog) 160 37 (.slice none 0 0) 24 Tryz.underlying160 info_bs rfl .i64 .i64 n (by omega) (by omega) W
  go_enter Tryz.func71, Tryz.ntmps71
  go_wp2_with fail
  go_ret2
  have e1 : (madeCells #[Value.slice none 0 0] n) = Array.replicate n (.slice none 0 0) := by
    apply Array.toList_inj.1
    rw [toList_madeCells_one]
    simp
  rw [e1]
  refine ⟨rfl, ⟨?_, ?_⟩, ((Only.refl _ _).alloc _).alloc _⟩
  · have h := Blk.new (w.alloc (Obj.cells (Array.replicate n (.slice none 0 0)) 37)) 240 #[.slice (some ⟨w.heap.size, 0, none⟩) n n, .int .i64 0, .int .i64 0]
    simpa using h
  · exact (Blk.new w 37 _).alloc _
theorem ring8_new (w : World) : Calls Tryz.prog 71 #[.int .i64 32] w fun e w' => e = .returned (.tuple #[.pointer (some ⟨w.heap.size + 1, 0, none⟩), .int .i64 0]) ∧ RingE w' (w.heap.size + 1) w.heap.size ∧ Only [] w w' := ring8_newn 32 (by omega) (by omega) w
/-- A prefix as New sees it: its address's slice, its bits. -/
abbrev Pf := Option Addr × Nat × Nat × Int
def pfC (a : Pf) : List Value := [.slice a.1 a.2.1 a.2.2.1, .int .i64 a.2.2.2]
def allRight (l : List Pf) : Bool := l.all fun a => rightN a.2.1 a.2.2.2
/-- The code of a config. -/
def cfgV (pub shr : ByteArray) (l : List Pf) (ep : Int) : Int := if kindT pub ≠ 5 ∨ kindT shr = 0 then 3 else if allRight l = false then 3 else if ep < 0 then 2 else 0
def newP (pub shr : ByteArray) (ep : Int) (rg sl : Nat) : Pr := ⟨pub, shr, ep, rg, sl, none, ⟨#[]⟩, 0, false, 0, false, 0, false, 0⟩
/-- A peer that was just made: it, its ring, the ring's row, its slots. -/
def Made15 (w : World) (pub shr : ByteArray) (ep : Int) (g rg gr sl : Nat) (w' : World) : Prop :=
  (w.heap.size ≤ g ∧ w.heap.size ≤ rg ∧ w.heap.size ≤ gr ∧ w.heap.size ≤ sl) ∧ (g ≠ rg ∧ g ≠ gr ∧ g ≠ sl ∧ rg ≠ gr ∧ rg ≠ sl ∧ gr ≠ sl) ∧ PeerIs w' g (newP pub shr ep rg sl) ∧ RingE w' rg gr ∧ SlotsIs w' sl none none none
def New15Post (k : Int) (pub shr : ByteArray) (ep : Int) (w : World) (e : Ending) (w' : World) : Prop :=
  Only [] w w' ∧ ((k = 0 ∧ ∃ g rg gr sl, e = .returned (.tuple #[.pointer (some ⟨g, 0, none⟩), .int .i64 0]) ∧ Made15 w pub shr ep g rg gr sl w') ∨ (k ≠ 0 ∧ e = .returned (.tuple #[.pointer none, .int .i64 k])))
set_option maxRecDepth 100000 in
set_option maxHeartbeats 12800000 in
theorem new_any (w : World) (pub shr : ByteArray) (v : Value) (l : List Pf) (ep : Int) (h1 : pub.size ≤ maxLen) (h2 : shr.size ≤ maxLen) (hl : RdS 2 pfC w [] v l) :
    Calls Tryz.prog 14 #[.agg #[.string pub, .string shr, v, .int .i64 ep]] w (New15Post (cfgV pub shr l ep) pub shr ep w) := by
  obtain ⟨A, cap, rfl, hlc, hcm⟩ := hl.form
  have HLM := hide (Nat.le_trans hlc hcm)
  clear hlc hcm
  have HL := hide hl
  have HK1 := hide (fun W => Kind_any W pub h1)
  have HK2 := hide (fun W => Kind_any W shr h2)
  unfold KindPost at HK1 HK2
  have HCV := hide (show cfgV pub shr l ep = cfgV pub shr l ep from rfl)
  obtain ⟨kc, hkc⟩ : ∃ k, k = cfgV pub shr l ep := ⟨_, rfl⟩
  rw [← hkc]
  unfold cfgV at hkc
  clear HCV
  have HKC := hide hkc
  clear hkc h1 h2 hl
  obtain ⟨n, hn⟩ : ∃ n, n = l.length := ⟨_, rfl⟩
  have HN := hide hn
  rw [← hn] at HL ⊢
  clear hn
  have HC := hide (Blk.new w 46 #[.string pub, .string shr, .slice A n cap, .int .i64 ep])
  have HO := hide ((Only.refl [] w).alloc (.cells #[.string pub, .string shr, .slice A n cap, .int .i64 ep] 46))
  have c0 := HC.out.cell 0; have c1 := HC.out.cell 1; have c2 := HC.out.cell 2; have c3 := HC.out.cell 3; simp at c0 c1 c2 c3
  obtain ⟨k1, hk1⟩ : ∃ k, k = kindT pub := ⟨_, rfl⟩
  obtain ⟨k2, hk2⟩ : ∃ k, k = kindT shr := ⟨_, rfl⟩
  rw [← hk1] at HK1 HKC
  rw [← hk2] at HK2 HKC
  clear hk1 hk2
  rcases Decidable.em (k1 = 5) with g1 | g1
  · rcases Decidable.em (k2 = 0) with g2 | g2
    · have t1 : (k1 != 5) = false := by rw [bne_eq_false_iff_eq]; exact g1
      have t2 : (k2 == 0) = true := by rw [beq_iff_eq]; exact g2
      have HKX := hide (show kc = 3 from HKC.out.trans (if_pos (.inr g2)))
      go_enter Tryz.func14, Tryz.ntmps14
      go_wp2_with (first | (go_at_call 53; (with_reducible refine (HK1.out _).mono ?_); rintro e w1 ⟨rfl, ho⟩; have HO := hide (HO.out.trans ho); have HC := hide (HC.out.only ho (by simp)); clear ho c0 c1 c2 c3; have c0 := HC.out.cell 0; have c1 := HC.out.cell 1; have c2 := HC.out.cell 2; have c3 := HC.out.cell 3; simp at c0 c1 c2 c3) | (go_at_call 53; (with_reducible refine (HK2.out _).mono ?_); rintro e w2 ⟨rfl, ho⟩; have HO := hide (HO.out.trans ho); have HC := hide (HC.out.only ho (by simp)); clear ho c0 c1 c2 c3; have c0 := HC.out.cell 0; have c1 := HC.out.cell 1; have c2 := HC.out.cell 2; have c3 := HC.out.cell 3; simp at c0 c1 c2 c3))
      go_ret2
      exact ⟨HO.out, .inr ⟨by rw [HKX.out]; decide, by rw [HKX.out]; rfl⟩⟩
    · have t1 : (k1 != 5) = false := by rw [bne_eq_false_iff_eq]; exact g1
      have t2 : (k2 == 0) = false := by rw [beq_eq_false_iff_ne]; exact g2
      replace HKC := hide (HKC.out.trans (if_neg (by rintro (h | h); exact h g1; exact g2 h)))
      clear g1 g2
      go_enter Tryz.func14, Tryz.ntmps14
      go_wp2_with (first | (go_at_call 53; (with_reducible refine (HK1.out _).mono ?_); rintro e w1 ⟨rfl, ho⟩; have HO := hide (HO.out.trans ho); have HC := hide (HC.out.only ho (by simp)); clear ho c0 c1 c2 c3; have c0 := HC.out.cell 0; have c1 := HC.out.cell 1; have c2 := HC.out.cell 2; have c3 := HC.out.cell 3; simp at c0 c1 c2 c3) | (go_at_call 53; (with_reducible refine (HK2.out _).mono ?_); rintro e w2 ⟨rfl, ho⟩; have HO := hide (HO.out.trans ho); have HC := hide (HC.out.only ho (by simp)); clear ho c0 c1 c2 c3; have c0 := HC.out.cell 0; have c1 := HC.out.cell 1; have c2 := HC.out.cell 2; have c3 := HC.out.cell 3; simp at c0 c1 c2 c3))
      rename World => wl
      go_loopw [21] (fun i wr => ∃ k : Nat, k ≤ n ∧ i = .int .i64 k ∧ Hid (∀ j a, j < k → l[j]? = some a → rightN a.2.1 a.2.2.2 = true) ∧ Hid (Only [] w wr) ∧ Hid (Blk wr w.heap.size 46 #[.string pub, .string shr, .slice A n cap, .int .i64 ep])) (fun i _ => n - (intOf i).toNat)
      case atStart => exact ⟨0, Nat.zero_le _, rfl, hide (fun j a h => absurd h (Nat.not_lt_zero j)), HO, HC⟩
      case round =>
        obtain ⟨k, hk, rfl, HA, HX, HCX⟩ := hrel
        clear HO HC c0 c1 c2 c3
        have c0 := HCX.out.cell 0; have c1 := HCX.out.cell 1; have c2 := HCX.out.cell 2; have c3 := HCX.out.cell 3; simp at c0 c1 c2 c3
        by_cases hlt : k < n
        · have hltI : (k : Int) < (n : Int) := by omega
          obtain ⟨⟨Ap, np, cp, bp⟩, ha⟩ : ∃ a, l[k]? = some a := ⟨_, List.getElem?_eq_getElem (by rw [← HN.out]; exact hlt)⟩
          obtain ⟨gl, o, rfl, _, _⟩ := HL.out.addr (by rw [← HN.out]; omega)
          have d0 := (HL.out.only HX.out (by simp)).cell ha (j := 0) rfl
          have d1 := (HL.out.only HX.out (by simp)).cell ha (j := 1) rfl
          rw [Nat.add_zero] at d0
          rw [← Nat.add_assoc] at d1
          have HA2 := hide ha
          have HLT := hide hlt
          have HNM := hide (show n ≤ maxLen from (by rw [HN.out]; exact HLM.out))
          clear ha
          rcases Bool.eq_false_or_eq_true (rightN np bp) with hr | hr
          · as_aux_lemma =>
              have HRT := hide hr
              clear hr c0 c1 c2 c3
              go_wp2_with (go_at_call 70; refine (right_any _ _ _ _ true HRT.out _).mono ?_; rintro e w3 ⟨rfl, ho⟩; have HX := hide ((HX.out.alloc (.cells #[.slice Ap np cp, .int .i64 bp] 69)).trans ho); have HCX := hide ((HCX.out.alloc (.cells #[.slice Ap np cp, .int .i64 bp] 69)).only ho (by simp)); clear ho)
              go_roundw
              case rel => exact ⟨k + 1, by omega, by rw [wrap_step HLT.out HNM.out], hide (fun j a hj hja => (Nat.lt_or_eq_of_le (Nat.le_of_lt_succ hj)).elim (fun h => HA.out j a h hja) (fun h => by subst h; rw [HA2.out] at hja; cases hja; exact HRT.out)), HX, HCX⟩
              case measure => exact step_less HLT.out HNM.out
          · as_aux_lemma =>
              have HRT := hide hr
              have HKX := hide (show kc = 3 from HKC.out.trans (if_pos (show allRight l = false from List.all_eq_false.2 ⟨_, List.mem_of_getElem? HA2.out, by rw [HRT.out]; decide⟩)))
              clear hr c0 c1 c2 c3
              go_wp2_with (go_at_call 70; refine (right_any _ _ _ _ false HRT.out _).mono ?_; rintro e w3 ⟨rfl, ho⟩; have HX := hide ((HX.out.alloc (.cells #[.slice Ap np cp, .int .i64 bp] 69)).trans ho); have HCX := hide ((HCX.out.alloc (.cells #[.slice Ap np cp, .int .i64 bp] 69)).only ho (by simp)); clear ho)
              go_ret2
              exact ⟨HX.out, .inr ⟨by rw [HKX.out]; decide, by rw [HKX.out]; rfl⟩⟩
        · have hkn : k = n := by omega
          subst hkn
          have hltI : ¬ (k : Int) < (k : Int) := by omega
          have HAR := hide (show allRight l = true from List.all_eq_true.2 (fun a ha => by obtain ⟨j, hj, rfl⟩ := List.getElem_of_mem ha; exact HA.out j _ (by rw [HN.out]; exact hj) (List.getElem?_eq_getElem hj)))
          replace HKC := hide (HKC.out.trans (if_neg (by rw [HAR.out]; decide)))
          rcases Decidable.em (ep < 0) with ge | ge
          · as_aux_lemma =>
              have HKX := hide (show kc = 2 from HKC.out.trans (if_pos ge))
              go_wp2_with fail
              go_ret2
              exact ⟨HX.out, .inr ⟨by rw [HKX.out]; decide, by rw [HKX.out]; rfl⟩⟩
          · have HKX := hide (show kc = 0 from HKC.out.trans (if_neg ge))
            go_upto_region 14 with (go_at_call 71; refine (ring8_new _).mono ?_; rintro e wz ⟨rfl, hre, ho⟩; have HRE := hide hre; have HS1 := hide HX.out.size; have HWZ := hide ho.size; have HRL := hide (show wr.heap.size + 1 < wz.heap.size from hre.1.lt); have HX := hide (HX.out.trans ho); have HCX := hide (HCX.out.only ho (by simp)); clear hre ho c0 c1 c2 c3)
            refine wp_region_held_drew (S := fun W => Only [] wz W) (by kernel_rfl) (by exact (Only.refl [] wz).drew) (fun hHeld => ?_); generalize wz.drew = wd14 at *
            refine tk 0 ?_; refine tk 1 ?_ (hy := by (intro w hSw; (try dsimp only at hSw); have HCw := HCX.out.only hSw (by simp); have c0 := HCw.cell 0; simp at c0; clear HCw; go_simp; try with_reducible rfl)); refine tk 2 ?_
            refine tk 3 ?_ (hy := by (intro w hSw; (try dsimp only at hSw); have HCw := HCX.out.only hSw (by simp); have c1 := HCw.cell 1; simp at c1; clear HCw; go_simp; try with_reducible rfl)); refine tk 4 ?_
            refine tk 5 ?_ (hy := by (intro w hSw; (try dsimp only at hSw); have HCw := HCX.out.only hSw (by simp); have c3 := HCw.cell 3; simp at c3; clear HCw; go_simp; try with_reducible rfl)); refine tk 6 ?_
            refine wpAnyH_ready (rs := [7]) (by kernel_rfl) (by simp) ?_; refine (AllReadyH.cons rfl (fun K hK => ?_) AllReadyH.nil); go_simp
            (go_at_call 72; refine (slots_new _).mono ?_; rintro e2 w7 ⟨sl, rfl, hsl, his, ho⟩; have HSG := hide (Nat.le_trans hHeld.size hsl); have HSI := hide his; have HRE := hide (HRE.out.only (hHeld.trans ho) (by simp) (by simp)); clear hsl his)
            refine hK.out _ _ (by first | exact hHeld.trans ho | exact hHeld.trans (ho.mono (by simp))) (fun hN => ?_); clear hK K ho hHeld; have hHeld := hN; clear hN; (try simp only [zsa, zsb, zsc, Act.put, zsd, zse, zsf])
            refine tk 8 ?_; refine wpAnyH_ready (rs := [9]) (by kernel_rfl) (by simp) ?_; refine (AllReadyH.cons rfl (fun K hK => ?_) AllReadyH.nil); go_simp
            have HPB := hide (Blk.new w7 110 #[.string pub, .string shr, .int .i64 ep, .pointer (some ⟨wr.heap.size + 1, 0, none⟩), .pointer (some ⟨sl, 0, none⟩), .pointer none, .string ⟨#[]⟩, .int .i64 0, .bool false, .int .u64 0, .bool false, .int .i64 0, .bool false, .int .i64 0])
            have HGS := hide (show wz.heap.size ≤ w7.heap.size ∧ sl < w7.heap.size from ⟨hHeld.size, HSI.out.lt⟩)
            replace HSI := hide (HSI.out.alloc (.cells #[.string pub, .string shr, .int .i64 ep, .pointer (some ⟨wr.heap.size + 1, 0, none⟩), .pointer (some ⟨sl, 0, none⟩), .pointer none, .string ⟨#[]⟩, .int .i64 0, .bool false, .int .u64 0, .bool false, .int .i64 0, .bool false, .int .i64 0] 110))
            refine hK.out _ _ (by exact hHeld.alloc _) (fun hN => ?_); clear hK K hHeld; have hHeld := hN; clear hN; (try simp only [zsa, zsb, zsc, Act.put, zsd, zse, zsf])
            refine tk 10 ?_; refine tk 11 ?_; refine wpAnyH_done (by kernel_rfl) ?_ _; (repeat go_step); go_ret2
            exact ⟨HX.out.trans hHeld, .inl ⟨HKX.out, _, _, _, _, by rfl, ⟨Nat.le_trans HS1.out (Nat.le_trans HWZ.out HGS.out.1), Nat.le_succ_of_le HS1.out, HS1.out, Nat.le_trans HS1.out (Nat.le_trans HWZ.out HSG.out)⟩, (by have h1 := HRL.out; have h2 := HSG.out; have h3 := HGS.out; omega), ⟨HPB.out, fun s h => by cases h⟩, HRE.out.only ((Only.refl [] _).alloc _) (by simp) (by simp), HSI.out⟩⟩
  · have t1 : (k1 != 5) = true := by rw [bne_iff_ne]; exact g1
    have HKX := hide (show kc = 3 from HKC.out.trans (if_pos (.inl g1)))
    go_enter Tryz.func14, Tryz.ntmps14
    go_wp2_with (first | (go_at_call 53; (with_reducible refine (HK1.out _).mono ?_); rintro e w1 ⟨rfl, ho⟩; have HO := hide (HO.out.trans ho); have HC := hide (HC.out.only ho (by simp)); clear ho c0 c1 c2 c3; have c0 := HC.out.cell 0; have c1 := HC.out.cell 1; have c2 := HC.out.cell 2; have c3 := HC.out.cell 3; simp at c0 c1 c2 c3) | (go_at_call 53; (with_reducible refine (HK2.out _).mono ?_); rintro e w2 ⟨rfl, ho⟩; have HO := hide (HO.out.trans ho); have HC := hide (HC.out.only ho (by simp)); clear ho c0 c1 c2 c3; have c0 := HC.out.cell 0; have c1 := HC.out.cell 1; have c2 := HC.out.cell 2; have c3 := HC.out.cell 3; simp at c0 c1 c2 c3))
    go_ret2
    exact ⟨HO.out, .inr ⟨by rw [HKX.out]; decide, by rw [HKX.out]; rfl⟩⟩
end
section
open Go.RowKit Go.Deep

/-- A function without captured places, as a value. -/
abbrev fnV (f : FuncId) : Value := .func (.func f) #[] #[]
/-- A field of four bytes, whose place is told by the closure in the block b. -/
abbrev numF (b : Nat) : Value := .agg #[.int .i64 4, .func (.func 238) #[] #[.pointer (some ⟨b, 0, none⟩)], .func (.func 239) #[] #[.pointer (some ⟨b, 0, none⟩)], .nilFunc]
def numC (b : Nat) : List Value := [.int .i64 4, .func (.func 238) #[] #[.pointer (some ⟨b, 0, none⟩)], .func (.func 239) #[] #[.pointer (some ⟨b, 0, none⟩)], .nilFunc]

set_option maxHeartbeats 1600000 in
theorem wnumber_any (f : FuncId) (w : World) : Calls Tryz.prog 206 #[fnV f] w fun e w' => e = .returned (numF w.heap.size) ∧ Blk w' w.heap.size 308 #[fnV f] ∧ w.heap.size < w'.heap.size ∧ Only [] w w' := by
  have hst := fun (W : World) (a : Addr) (fn : Fn) (c : Array Value) => (run_store Tryz.prog W a (.func fn #[] c) .plain rfl : (store a (.func fn #[] c)).run Tryz.prog W = stored Tryz.prog W a (.func fn #[] c) .plain)
  have hsn := fun (W : World) (a : Addr) => (run_store Tryz.prog W a .nilFunc .plain rfl : (store a .nilFunc).run Tryz.prog W = stored Tryz.prog W a .nilFunc .plain)
  have HB := hide ((Blk.new w 308 #[fnV f]).alloc (.cells (numC w.heap.size).toArray 230))
  have HF := hide (Blk.new (w.alloc (.cells #[fnV f] 308)) 230 (numC w.heap.size).toArray)
  rw [World.size_alloc] at HF
  have HO := hide (((Only.refl [] w).alloc (.cells #[fnV f] 308)).alloc (.cells (numC w.heap.size).toArray 230))
  go_enter Tryz.func206, Tryz.ntmps206
  go_wp2
  refine bodyPost_ret (results_cell_row rfl _ _ (w.heap.size + 1) 230 _ (0, 0) _ rfl HF.out Tryz.underlying230 rfl (by kernel_rfl)) rfl ?_
  exact ⟨rfl, HB.out, (by simp; omega), HO.out⟩
set_option maxRecDepth 100000 in
theorem numget1 (M b : Nat) (x : Nat) (w : World) (h : w.cell? ⟨b, 0, none⟩ = some (fnV 207)) (h2 : w.cell? ⟨M, 1, none⟩ = some (.int .u32 x)) (hx : x < 4294967296) :
    Calls Tryz.prog 238 #[.pointer (some ⟨M, 0, none⟩), .pointer (some ⟨b, 0, none⟩)] w fun e w' => e = .returned (.int .u64 x) ∧ w = w' := by
  have hw : IntKind.u64.wrap (x : Int) = x := by rw [IntKind.wrap_u64]; omega
  clear hx
  go_enter Tryz.func238, Tryz.ntmps238
  go_wp2
  go_ret
  exact ⟨rfl, rfl⟩
set_option maxRecDepth 100000 in
theorem numset1 (M b : Nat) (x : Nat) (w : World) (h : w.cell? ⟨b, 0, none⟩ = some (fnV 207)) {y : Nat} (h2 : w.cell? ⟨M, 1, none⟩ = some (.int .u32 y)) (hf : w.frozen? ⟨M, 1, none⟩ = false) (hx : x < 4294967296) :
    Calls Tryz.prog 239 #[.pointer (some ⟨M, 0, none⟩), .int .u64 x, .pointer (some ⟨b, 0, none⟩)] w fun e w' => e = .returned (.tuple #[]) ∧ w' = w.setCell ⟨M, 1, none⟩ (.int .u32 x) := by
  have hw : IntKind.u32.wrap (x : Int) = x := by rw [IntKind.wrap_u32]; omega
  clear hx
  go_enter Tryz.func239, Tryz.ntmps239
  go_wp2
  go_end0
  exact ⟨rfl, rfl⟩
set_option maxRecDepth 100000 in
theorem numget2 (M b : Nat) (x : Nat) (w : World) (h : w.cell? ⟨b, 0, none⟩ = some (fnV 208)) (h2 : w.cell? ⟨M, 2, none⟩ = some (.int .u32 x)) (hx : x < 4294967296) :
    Calls Tryz.prog 238 #[.pointer (some ⟨M, 0, none⟩), .pointer (some ⟨b, 0, none⟩)] w fun e w' => e = .returned (.int .u64 x) ∧ w = w' := by
  have hw : IntKind.u64.wrap (x : Int) = x := by rw [IntKind.wrap_u64]; omega
  clear hx
  go_enter Tryz.func238, Tryz.ntmps238
  go_wp2
  go_ret
  exact ⟨rfl, rfl⟩
set_option maxRecDepth 100000 in
theorem numset2 (M b : Nat) (x : Nat) (w : World) (h : w.cell? ⟨b, 0, none⟩ = some (fnV 208)) {y : Nat} (h2 : w.cell? ⟨M, 2, none⟩ = some (.int .u32 y)) (hf : w.frozen? ⟨M, 2, none⟩ = false) (hx : x < 4294967296) :
    Calls Tryz.prog 239 #[.pointer (some ⟨M, 0, none⟩), .int .u64 x, .pointer (some ⟨b, 0, none⟩)] w fun e w' => e = .returned (.tuple #[]) ∧ w' = w.setCell ⟨M, 2, none⟩ (.int .u32 x) := by
  have hw : IntKind.u32.wrap (x : Int) = x := by rw [IntKind.wrap_u32]; omega
  clear hx
  go_enter Tryz.func239, Tryz.ntmps239
  go_wp2
  go_end0
  exact ⟨rfl, rfl⟩
theorem place4 (M : Nat) (w : World) : Calls Tryz.prog 209 #[.pointer (some ⟨M, 0, none⟩)] w fun e w' => e = .returned (.pointer (some ⟨M, 4, none⟩)) ∧ w = w' := by
  go_enter Tryz.func209, Tryz.ntmps209
  go_wp2
  go_ret
  exact ⟨rfl, rfl⟩
theorem place11 (M : Nat) (w : World) : Calls Tryz.prog 210 #[.pointer (some ⟨M, 0, none⟩)] w fun e w' => e = .returned (.pointer (some ⟨M, 11, none⟩)) ∧ w = w' := by
  go_enter Tryz.func210, Tryz.ntmps210
  go_wp2
  go_ret
  exact ⟨rfl, rfl⟩
theorem place12 (M : Nat) (w : World) : Calls Tryz.prog 211 #[.pointer (some ⟨M, 0, none⟩)] w fun e w' => e = .returned (.pointer (some ⟨M, 12, none⟩)) ∧ w = w' := by
  go_enter Tryz.func211, Tryz.ntmps211
  go_wp2
  go_ret
  exact ⟨rfl, rfl⟩
theorem place5 (M : Nat) (w : World) : Calls Tryz.prog 212 #[.pointer (some ⟨M, 0, none⟩)] w fun e w' => e = .returned (.pointer (some ⟨M, 5, none⟩)) ∧ w = w' := by
  go_enter Tryz.func212, Tryz.ntmps212
  go_wp2
  go_ret
  exact ⟨rfl, rfl⟩
theorem place6 (M : Nat) (w : World) : Calls Tryz.prog 213 #[.pointer (some ⟨M, 0, none⟩)] w fun e w' => e = .returned (.pointer (some ⟨M, 6, none⟩)) ∧ w = w' := by
  go_enter Tryz.func213, Tryz.ntmps213
  go_wp2
  go_ret
  exact ⟨rfl, rfl⟩
theorem place7 (M : Nat) (w : World) : Calls Tryz.prog 214 #[.pointer (some ⟨M, 0, none⟩)] w fun e w' => e = .returned (.pointer (some ⟨M, 7, none⟩)) ∧ w = w' := by
  go_enter Tryz.func214, Tryz.ntmps214
  go_wp2
  go_ret
  exact ⟨rfl, rfl⟩
theorem place8 (M : Nat) (w : World) : Calls Tryz.prog 215 #[.pointer (some ⟨M, 0, none⟩)] w fun e w' => e = .returned (.pointer (some ⟨M, 8, none⟩)) ∧ w = w' := by
  go_enter Tryz.func215, Tryz.ntmps215
  go_wp2
  go_ret
  exact ⟨rfl, rfl⟩
theorem place9 (M : Nat) (w : World) : Calls Tryz.prog 216 #[.pointer (some ⟨M, 0, none⟩)] w fun e w' => e = .returned (.pointer (some ⟨M, 9, none⟩)) ∧ w = w' := by
  go_enter Tryz.func216, Tryz.ntmps216
  go_wp2
  go_ret
  exact ⟨rfl, rfl⟩
theorem place10 (M : Nat) (w : World) : Calls Tryz.prog 219 #[.pointer (some ⟨M, 0, none⟩)] w fun e w' => e = .returned (.pointer (some ⟨M, 10, none⟩)) ∧ w = w' := by
  go_enter Tryz.func219, Tryz.ntmps219
  go_wp2
  go_ret
  exact ⟨rfl, rfl⟩
set_option maxHeartbeats 1600000 in
theorem cntget (M : Nat) (x : Nat) (w : World) (h2 : w.cell? ⟨M, 3, none⟩ = some (.int .u64 x)) :
    Calls Tryz.prog 217 #[.pointer (some ⟨M, 0, none⟩)] w fun e w' => e = .returned (.int .u64 x) ∧ w = w' := by
  go_enter Tryz.func217, Tryz.ntmps217
  go_wp2
  go_ret
  exact ⟨rfl, rfl⟩
theorem cntset (M : Nat) (x : Nat) (w : World) {y : Nat} (h2 : w.cell? ⟨M, 3, none⟩ = some (.int .u64 y)) (hf : w.frozen? ⟨M, 3, none⟩ = false) :
    Calls Tryz.prog 218 #[.pointer (some ⟨M, 0, none⟩), .int .u64 x] w fun e w' => e = .returned (.tuple #[]) ∧ w' = w.setCell ⟨M, 3, none⟩ (.int .u64 x) := by
  go_enter Tryz.func218, Tryz.ntmps218
  go_wp2
  go_end0
  exact ⟨rfl, rfl⟩
end
end Go.Proofs.YtcokjoidpnfjhaaGreatDoor

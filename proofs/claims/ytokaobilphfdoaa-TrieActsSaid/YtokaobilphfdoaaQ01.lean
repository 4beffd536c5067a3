/-
  Walks and plain words (texts Adl, Tr1, Tr2, Tp0). No condition beyond those that each theorem states.
-/
import Derived.Test.YtokaobilphfdoaaP01
namespace Go.Proofs.Ytokaobilphfdoaa
section

/-- The mask of a byte at a place, if b bits are the first ones. -/
def maskN (p b : Nat) : Nat := 256 - 2 ^ (8 - min 8 (b - 8 * p))
/-- A bit of an address. -/
def bitN (l : List UInt8) (j : Nat) : Nat := (l.getD (j / 8) 0).toNat / 2 ^ (7 - j % 8) % 2
def sameP (l m : List UInt8) (b : Nat) : Prop := ∀ k, k < l.length → (l.getD k 0).toNat &&& maskN k b = (m.getD k 0).toNat &&& maskN k b
instance (l m : List UInt8) (b : Nat) : Decidable (sameP l m b) := by unfold sameP; infer_instance
def plainV (l : List UInt8) (b : Nat) : List UInt8 := (List.range l.length).map fun k => UInt8.ofNat ((l.getD k 0).toNat &&& maskN k b)

theorem and_mk (c r : Nat) (hc : c < 256) (hr : r ≤ 8) : c &&& (256 - 2 ^ (8 - r)) = c / 2 ^ (8 - r) * 2 ^ (8 - r) := by
  have h : ∀ (r : Fin 9) (c : Fin 256), c.1 &&& (256 - 2 ^ (8 - r.1)) = c.1 / 2 ^ (8 - r.1) * 2 ^ (8 - r.1) := by decide +kernel
  exact h ⟨r, by omega⟩ ⟨c, hc⟩
theorem and_mk_lt (c k b : Nat) (hc : c < 256) : c &&& maskN k b < 256 := Nat.lt_of_le_of_lt Nat.and_le_left hc
theorem byte_bits (c d : Nat) : ∀ r, r ≤ 8 → (c / 2 ^ (8 - r) = d / 2 ^ (8 - r) ↔ c / 2 ^ 8 = d / 2 ^ 8 ∧ ∀ j, j < r → c / 2 ^ (7 - j) % 2 = d / 2 ^ (7 - j) % 2)
  | 0, _ => by simp
  | r + 1, h => by
    have ih := byte_bits c d r (by omega)
    have e : 8 - r = (7 - r) + 1 := by omega
    have e' : 8 - (r + 1) = 7 - r := by omega
    rw [e, Nat.pow_succ, ← Nat.div_div_eq_div_mul, ← Nat.div_div_eq_div_mul] at ih
    rw [e']
    constructor
    · intro e
      obtain ⟨h1, h2⟩ := ih.1 (by rw [e])
      refine ⟨h1, fun j hj => ?_⟩
      by_cases hjr : j = r
      · subst hjr; rw [e]
      · exact h2 j (by omega)
    · rintro ⟨h1, h2⟩
      have h3 := ih.2 ⟨h1, fun j hj => h2 j (by omega)⟩
      have h4 := h2 r (by omega)
      generalize c / 2 ^ (7 - r) = x at *
      generalize d / 2 ^ (7 - r) = y at *
      omega
theorem byte_same (c d r : Nat) (hc : c < 256) (hd : d < 256) (hr : r ≤ 8) : c &&& (256 - 2 ^ (8 - r)) = d &&& (256 - 2 ^ (8 - r)) ↔ ∀ j, j < r → c / 2 ^ (7 - j) % 2 = d / 2 ^ (7 - j) % 2 := by
  rw [and_mk c r hc hr, and_mk d r hd hr]
  have hp : 0 < 2 ^ (8 - r) := Nat.pow_pos (by omega)
  rw [Nat.mul_left_inj (by omega), byte_bits c d r hr]
  simp [Nat.div_eq_of_lt (show c < 2 ^ 8 by omega), Nat.div_eq_of_lt (show d < 2 ^ 8 by omega)]
theorem same_bits {l m : List UInt8} {b : Nat} (hb : b ≤ 8 * l.length) : sameP l m b ↔ ∀ j, j < b → bitN l j = bitN m j := by
  unfold sameP bitN maskN
  constructor
  · intro h j hj
    have h1 := h (j / 8) (by omega)
    rw [byte_same _ _ _ (UInt8.toNat_lt _) (UInt8.toNat_lt _) (by omega)] at h1
    exact h1 (j % 8) (by omega)
  · intro h k hk
    rw [byte_same _ _ _ (UInt8.toNat_lt _) (UInt8.toNat_lt _) (by omega)]
    intro j hj
    have := h (8 * k + j) (by omega)
    rwa [show (8 * k + j) / 8 = k by omega, show (8 * k + j) % 8 = j by omega] at this
theorem bit_lt (l : List UInt8) (j : Nat) : bitN l j < 2 := Nat.mod_lt _ (by omega)
theorem plain_length (l : List UInt8) (b : Nat) : (plainV l b).length = l.length := by simp [plainV]
theorem plain_get {l : List UInt8} {b k : Nat} (hk : k < l.length) : (plainV l b).getD k 0 = UInt8.ofNat ((l.getD k 0).toNat &&& maskN k b) := by
  simp [plainV, List.getD, hk]
theorem plain_nat {l : List UInt8} {b k : Nat} (hk : k < l.length) : ((plainV l b).getD k 0).toNat = (l.getD k 0).toNat &&& maskN k b := by
  rw [plain_get hk, UInt8.toNat_ofNat']
  exact Nat.mod_eq_of_lt (and_mk_lt _ _ _ (UInt8.toNat_lt _))
theorem plain_same {l m : List UInt8} {b : Nat} : sameP (plainV l b) m b ↔ sameP l m b := by
  unfold sameP
  rw [plain_length]
  constructor
  · intro h k hk
    have := h k hk
    rwa [plain_nat hk, Nat.and_assoc, Nat.and_self] at this
  · intro h k hk
    rw [plain_nat hk, Nat.and_assoc, Nat.and_self]
    exact h k hk
theorem plain_zero (l : List UInt8) : plainV l 0 = List.replicate l.length 0 := by
  apply List.ext_getElem
  · simp [plainV]
  · intro i h1 h2
    simp [plainV, maskN]
theorem mask_step (c r : Nat) (hc : c < 256) (hr : r < 8) : c &&& (256 - 2 ^ (8 - (r + 1))) = (c &&& (256 - 2 ^ (8 - r))) + c / 2 ^ (7 - r) % 2 * 2 ^ (7 - r) := by
  have h : ∀ (r : Fin 8) (c : Fin 256), c.1 &&& (256 - 2 ^ (8 - (r.1 + 1))) = (c.1 &&& (256 - 2 ^ (8 - r.1))) + c.1 / 2 ^ (7 - r.1) % 2 * 2 ^ (7 - r.1) := by decide +kernel
  exact h ⟨r, by omega⟩ ⟨c, hc⟩
theorem plain_step {l : List UInt8} {i : Nat} (hi : i < 8 * l.length) :
    plainV l (i + 1) = (plainV l i).set (i / 8) (UInt8.ofNat (((plainV l i).getD (i / 8) 0).toNat + bitN l i * 2 ^ (7 - i % 8))) := by
  have hk : i / 8 < l.length := by omega
  rw [plain_nat hk]
  apply List.ext_getElem
  · simp [plainV]
  · intro j h1 h2
    rw [plain_length] at h1
    rw [List.getElem_set]
    by_cases hj : i / 8 = j
    · rw [if_pos hj]
      subst hj
      simp only [plainV, List.getElem_map, List.getElem_range]
      congr 1
      have := mask_step (l.getD (i / 8) 0).toNat (i % 8) (UInt8.toNat_lt _) (by omega)
      unfold maskN bitN
      rwa [show min 8 (i + 1 - 8 * (i / 8)) = i % 8 + 1 by omega, show min 8 (i - 8 * (i / 8)) = i % 8 by omega]
    · rw [if_neg hj]
      simp only [plainV, List.getElem_map, List.getElem_range]
      congr 2
      unfold maskN
      congr 2
      omega
def rightV (l : List UInt8) (b : Int) : Bool := (decide (l.length = 4) || decide (l.length = 16)) && decide (0 ≤ b) && decide (b ≤ 8 * (l.length : Int))
def hasV (l : List UInt8) (b : Int) (m : List UInt8) : Bool := rightV l b && decide (m.length = l.length) && decide (sameP l m b.toNat)
theorem right_plain (l : List UInt8) (b : Int) (n : Nat) : rightV (plainV l n) b = rightV l b := by unfold rightV; rw [plain_length]
theorem right_nat {l : List UInt8} {b : Int} (h : rightV l b = true) : b.toNat ≤ 8 * l.length ∧ 0 ≤ b := by
  simp only [rightV, Bool.and_eq_true, decide_eq_true_eq] at h
  omega
theorem getD_some {l : List UInt8} {k : Nat} (h : k < l.length) : l[k]? = some (l.getD k 0) := by
  rw [List.getD, List.getElem?_eq_getElem h]; rfl
end
section
open Go.RowKit Go.Deep

/-- The first bits of an address, the last one ahead. -/
def pathR (l : List UInt8) : Nat → List Bool
  | 0 => []
  | i + 1 => (bitN l i == 1) :: pathR l i

def kidV (a : Option (Nat × Nat)) : Value := .pointer (a.map fun p => ⟨p.1, p.2, none⟩)
def nodeC (o : Int) (t : Bool) (a b : Option (Nat × Nat)) : List Value := [.int .i64 o, .bool t, kidV a, kidV b]
/-- Where the nodes of the two tries lie (false: the one of four bytes). -/
abbrev Ads := Bool → List Bool → Option (Nat × Nat)

/-- The nodes' cells. -/
def NodesAt (w : World) (ad : Ads) (C : Bool → List Bool → List Value) : Prop :=
  ∀ s π g o, ad s π = some (g, o) → g < w.heap.size ∧ (∀ j u, (C s π)[j]? = some u → w.cell? ⟨g, o + j, none⟩ = some u) ∧ ∀ j, w.frozen? ⟨g, o + j, none⟩ = false

def rootOff (s : Bool) : Nat := if s then 4 else 0
structure TrAds (bl : List Nat) (T : Nat) (ad : Ads) : Prop where
  root : ∀ s, ad s [] = some (T, rootOff s)
  up : ∀ s b π, (ad s (b :: π)).isSome = true → (ad s π).isSome = true
  mem : ∀ s π g o, ad s π = some (g, o) → g ∈ bl
  inj : ∀ s π s' π' g o o', ad s π = some (g, o) → ad s' π' = some (g, o') → (s = s' ∧ π = π') ∨ (π = [] ∧ π' = [])

structure TrIs (w : World) (T : Nat) (bl : List Nat) (ad : Ads) (th : Bool → List Bool → Bool) (ow : Bool → List Bool → Int) : Prop where
  ads : TrAds bl T ad
  lt : ∀ g ∈ bl, g < w.heap.size
  cells : NodesAt w ad fun s π => nodeC (ow s π) (th s π) (ad s (false :: π)) (ad s (true :: π))
  bare : ∀ s π, ad s π = none → th s π = false ∧ ow s π = 0

theorem frozen_only {S : List Nat} {w w' : World} (ho : Only S w w') {a : Addr} (hb : a.block < w.heap.size) (hs : a.block ∉ S) : w'.frozen? a = w.frozen? a := by
  unfold World.frozen?
  rw [ho.block a.block hb hs]

theorem NodesAt.only {w w' : World} {ad : Ads} {C : Bool → List Bool → List Value} {S : List Nat} (h : NodesAt w ad C) (ho : Only S w w') (hs : ∀ s π g o, ad s π = some (g, o) → g ∉ S) : NodesAt w' ad C := by
  intro s π g o ha
  obtain ⟨h1, h2, h3⟩ := h s π g o ha
  refine ⟨Nat.lt_of_lt_of_le h1 ho.size, fun j u hu => ?_, fun j => ?_⟩
  · rw [cell_only ho (a := ⟨g, o + j, none⟩) h1 (hs s π g o ha)]; exact h2 j u hu
  · rw [frozen_only ho (a := ⟨g, o + j, none⟩) h1 (hs s π g o ha)]; exact h3 j
theorem TrIs.only {w w' : World} {T : Nat} {bl S : List Nat} {ad : Ads} {th : Bool → List Bool → Bool} {ow : Bool → List Bool → Int} (h : TrIs w T bl ad th ow) (ho : Only S w w') (hs : ∀ x ∈ S, x ∉ bl) : TrIs w' T bl ad th ow :=
  ⟨h.ads, fun g hg => Nat.lt_of_lt_of_le (h.lt g hg) ho.size, h.cells.only ho (fun s π g o ha hS => hs g hS (h.ads.mem s π g o ha)), h.bare⟩

theorem addr_ne {g o i g' o' j : Nat} (h : g ≠ g' ∨ o + i ≠ o' + j) : (⟨g, o + i, none⟩ : Addr) ≠ ⟨g', o' + j, none⟩ := by
  intro e
  injection e with e1 e2
  rcases h with h | h
  · exact h e1
  · exact h e2
theorem TrAds.sep {bl : List Nat} {T : Nat} {ad : Ads} (h : TrAds bl T ad) {s s' : Bool} {π π' : List Bool} {g o g' o' : Nat} (h1 : ad s π = some (g, o)) (h2 : ad s' π' = some (g', o')) (hne : ¬ (s = s' ∧ π = π')) {i j : Nat} (hi : i < 4) (hj : j < 4) :
    g ≠ g' ∨ o + i ≠ o' + j := by
  by_cases hg : g = g'
  · subst hg
    rcases h.inj s π s' π' g o o' h1 h2 with h3 | ⟨rfl, rfl⟩
    · exact absurd h3 hne
    · right
      rw [h.root] at h1 h2
      injection h1 with h1
      injection h2 with h2
      injection h1 with _ e1
      injection h2 with _ e2
      subst e1 e2
      cases s <;> cases s' <;> simp_all [rootOff] <;> omega
  · exact .inl hg

def upd2 {α : Type} (f : Bool → List Bool → α) (s : Bool) (π : List Bool) (x : α) : Bool → List Bool → α := fun s' π' => if s' = s ∧ π' = π then x else f s' π'
theorem upd2_same {α : Type} (f : Bool → List Bool → α) (s : Bool) (π : List Bool) (x : α) : upd2 f s π x s π = x := by unfold upd2; rw [if_pos ⟨rfl, rfl⟩]
theorem upd2_ne {α : Type} (f : Bool → List Bool → α) {s s' : Bool} {π π' : List Bool} (x : α) (h : ¬ (s' = s ∧ π' = π)) : upd2 f s π x s' π' = f s' π' := by unfold upd2; rw [if_neg h]

theorem NodesAt.set {w : World} {T : Nat} {bl : List Nat} {ad : Ads} {C : Bool → List Bool → List Value} (h : NodesAt w ad C) (hA : TrAds bl T ad) (hC : ∀ s π, (C s π).length = 4) {s : Bool} {π : List Bool} {g o : Nat} (ha : ad s π = some (g, o)) (i : Nat) (hi : i < 4) (v : Value) :
    NodesAt (w.setCell ⟨g, o + i, none⟩ v) ad (upd2 C s π ((C s π).set i v)) := by
  intro s' π' g' o' ha'
  obtain ⟨h1, h2, h3⟩ := h s' π' g' o' ha'
  refine ⟨by simpa [World.setCell] using h1, fun j u hu => ?_, fun j => by simpa [World.frozen?_setCell] using h3 j⟩
  by_cases hsame : s' = s ∧ π' = π
  · obtain ⟨rfl, rfl⟩ := hsame
    rw [upd2_same] at hu
    rw [ha] at ha'
    injection ha' with ha'
    injection ha' with e1 e2
    subst e1 e2
    rw [List.getElem?_set] at hu
    by_cases hij : i = j
    · subst hij
      rw [if_pos rfl, if_pos (by rw [hC]; exact hi)] at hu
      injection hu with hu
      subst hu
      obtain ⟨x, hx⟩ : ∃ x, (C s' π')[i]? = some x := ⟨_, List.getElem?_eq_getElem (by rw [hC]; exact hi)⟩
      exact World.cell?_setCell_same _ _ _ (h2 i x hx)
    · rw [if_neg hij] at hu
      rw [World.cell?_setCell_other _ _ _ _ (addr_ne (.inr (by omega)))]
      exact h2 j u hu
  · rw [upd2_ne _ _ hsame] at hu
    have hj : j < 4 := by rw [← hC s' π']; exact (List.getElem?_eq_some_iff.1 hu).1
    rw [World.cell?_setCell_other _ _ _ _ (addr_ne (hA.sep ha' ha hsame hj hi)).symm]
    exact h2 j u hu
end
section
open Go.RowKit Go.Deep

theorem cons_ne {b : Bool} {π : List Bool} : b :: π ≠ π := by
  intro h
  have := congrArg List.length h
  simp at this

section
variable {w : World} {T : Nat} {bl : List Nat} {ad : Ads} {th : Bool → List Bool → Bool} {ow : Bool → List Bool → Int} {s : Bool} {π : List Bool} {g o : Nat}
theorem TrIs.set_ow (h : TrIs w T bl ad th ow) (ha : ad s π = some (g, o)) (x : Int) : TrIs (w.setCell ⟨g, o, none⟩ (.int .i64 x)) T bl ad th (upd2 ow s π x) := by
  have hs := h.cells.set h.ads (fun _ _ => rfl) ha 0 (by omega) (.int .i64 x)
  refine ⟨h.ads, fun k hk => by simpa [World.setCell] using h.lt k hk, ?_, fun s' π' hn => ?_⟩
  · have e : (upd2 (fun s π => nodeC (ow s π) (th s π) (ad s (false :: π)) (ad s (true :: π))) s π ((nodeC (ow s π) (th s π) (ad s (false :: π)) (ad s (true :: π))).set 0 (.int .i64 x))) = fun s' π' => nodeC (upd2 ow s π x s' π') (th s' π') (ad s' (false :: π')) (ad s' (true :: π')) := by
      funext s' π'
      by_cases hc : s' = s ∧ π' = π
      · obtain ⟨rfl, rfl⟩ := hc; rw [upd2_same, upd2_same]; rfl
      · rw [upd2_ne _ _ hc, upd2_ne _ _ hc]
    rw [← e]
    exact hs
  · have hc : ¬ (s' = s ∧ π' = π) := by rintro ⟨rfl, rfl⟩; rw [ha] at hn; cases hn
    rw [upd2_ne _ _ hc]
    exact h.bare s' π' hn
theorem TrIs.set_th (h : TrIs w T bl ad th ow) (ha : ad s π = some (g, o)) (x : Bool) : TrIs (w.setCell ⟨g, o + 1, none⟩ (.bool x)) T bl ad (upd2 th s π x) ow := by
  have hs := h.cells.set h.ads (fun _ _ => rfl) ha 1 (by omega) (.bool x)
  refine ⟨h.ads, fun k hk => by simpa [World.setCell] using h.lt k hk, ?_, fun s' π' hn => ?_⟩
  · have e : (upd2 (fun s π => nodeC (ow s π) (th s π) (ad s (false :: π)) (ad s (true :: π))) s π ((nodeC (ow s π) (th s π) (ad s (false :: π)) (ad s (true :: π))).set 1 (.bool x))) = fun s' π' => nodeC (ow s' π') (upd2 th s π x s' π') (ad s' (false :: π')) (ad s' (true :: π')) := by
      funext s' π'
      by_cases hc : s' = s ∧ π' = π
      · obtain ⟨rfl, rfl⟩ := hc; rw [upd2_same, upd2_same]; rfl
      · rw [upd2_ne _ _ hc, upd2_ne _ _ hc]
    rw [← e]
    exact hs
  · have hc : ¬ (s' = s ∧ π' = π) := by rintro ⟨rfl, rfl⟩; rw [ha] at hn; cases hn
    rw [upd2_ne _ _ hc]
    exact h.bare s' π' hn
theorem TrIs.new_kid (h : TrIs w T bl ad th ow) (ha : ad s π = some (g, o)) (b : Bool) (hn : ad s (b :: π) = none) (t : TypeId) :
    TrIs ((w.alloc (.cells #[.int .i64 0, .bool false, .pointer none, .pointer none] t)).setCell ⟨g, o + (2 + b.toNat), none⟩ (.pointer (some ⟨w.heap.size, 0, none⟩))) T (w.heap.size :: bl) (upd2 ad s (b :: π) (some (w.heap.size, 0))) th ow := by
  have hg := h.lt g (h.ads.mem s π g o ha)
  have hb2 : 2 + b.toNat < 4 := by cases b <;> decide
  have hs := (h.cells.only ((Only.refl [] w).alloc (.cells #[.int .i64 0, .bool false, .pointer none, .pointer none] t)) (fun _ _ _ _ _ => by simp)).set h.ads (fun _ _ => rfl) ha (2 + b.toNat) hb2 (.pointer (some ⟨w.heap.size, 0, none⟩))
  have hmiss : ∀ c, ad s (c :: b :: π) = none := by
    intro c
    cases hc : ad s (c :: b :: π) with
    | none => rfl
    | some p =>
      have := h.ads.up s c (b :: π) (by rw [hc]; rfl)
      rw [hn] at this
      cases this
  refine ⟨⟨fun s' => ?_, fun s' c π' hsome => ?_, fun s' π' g' o' ha' => ?_, fun s1 π1 s2 π2 g' o1 o2 h1 h2 => ?_⟩, fun k hk => ?_, ?_, fun s' π' hn' => ?_⟩
  · rw [upd2_ne _ _ (by rintro ⟨_, h⟩; cases h)]
    exact h.ads.root s'
  · by_cases hc : s' = s ∧ π' = b :: π
    · obtain ⟨rfl, rfl⟩ := hc
      rw [upd2_same]; rfl
    · rw [upd2_ne _ _ hc]
      by_cases hc2 : s' = s ∧ c :: π' = b :: π
      · obtain ⟨rfl, h2⟩ := hc2
        injection h2 with _ h2
        subst h2
        rw [ha]; rfl
      · rw [upd2_ne _ _ hc2] at hsome
        exact h.ads.up s' c π' hsome
  · by_cases hc : s' = s ∧ π' = b :: π
    · obtain ⟨rfl, rfl⟩ := hc
      rw [upd2_same] at ha'
      injection ha' with ha'
      injection ha' with e1 _
      rw [← e1]
      exact List.mem_cons_self
    · rw [upd2_ne _ _ hc] at ha'
      exact List.mem_cons_of_mem _ (h.ads.mem s' π' g' o' ha')
  · by_cases hc1 : s1 = s ∧ π1 = b :: π
    · by_cases hc2 : s2 = s ∧ π2 = b :: π
      · obtain ⟨rfl, rfl⟩ := hc1
        obtain ⟨rfl, rfl⟩ := hc2
        exact .inl ⟨rfl, rfl⟩
      · obtain ⟨rfl, rfl⟩ := hc1
        rw [upd2_same] at h1
        rw [upd2_ne _ _ hc2] at h2
        injection h1 with h1
        injection h1 with e1 _
        have := h.lt _ (h.ads.mem _ _ _ _ h2)
        omega
    · rw [upd2_ne _ _ hc1] at h1
      by_cases hc2 : s2 = s ∧ π2 = b :: π
      · obtain ⟨rfl, rfl⟩ := hc2
        rw [upd2_same] at h2
        injection h2 with h2
        injection h2 with e2 _
        have := h.lt _ (h.ads.mem _ _ _ _ h1)
        omega
      · rw [upd2_ne _ _ hc2] at h2
        exact h.ads.inj _ _ _ _ _ _ _ h1 h2
  · rcases List.mem_cons.1 hk with rfl | hk
    · simp [World.setCell]
    · have := h.lt k hk
      simp [World.setCell]
      omega
  · intro s' π' g' o' ha'
    by_cases hc : s' = s ∧ π' = b :: π
    · obtain ⟨rfl, rfl⟩ := hc
      rw [upd2_same] at ha'
      injection ha' with ha'
      injection ha' with e1 e2
      subst e1 e2
      obtain ⟨e3, e4⟩ := h.bare _ _ hn
      have hB := (Blk.new w t #[.int .i64 0, .bool false, .pointer none, .pointer none]).far (p := ⟨g, o + (2 + b.toNat), none⟩) (show w.heap.size ≠ g by omega) (.pointer (some ⟨w.heap.size, 0, none⟩))
      refine ⟨hB.lt, fun j u hu => ?_, fun j => hB.frozen _⟩
      rw [Nat.zero_add, hB.cell]
      dsimp only at hu
      rw [e3, e4, upd2_ne _ _ (by rintro ⟨_, h⟩; exact cons_ne h), upd2_ne _ _ (by rintro ⟨_, h⟩; exact cons_ne h), hmiss, hmiss] at hu
      simpa [nodeC, kidV] using hu
    · rw [upd2_ne _ _ hc] at ha'
      obtain ⟨h1, h2, h3⟩ := hs s' π' g' o' ha'
      refine ⟨h1, fun j u hu => h2 j u ?_, h3⟩
      rw [← hu]
      congr 1
      dsimp only
      by_cases hc2 : s' = s ∧ π' = π
      · obtain ⟨rfl, rfl⟩ := hc2
        rw [upd2_same]
        cases b with
        | false => rw [upd2_same, upd2_ne _ _ (by rintro ⟨_, h⟩; simp at h)]; rfl
        | true => rw [upd2_same, upd2_ne _ _ (by rintro ⟨_, h⟩; simp at h)]; rfl
      · rw [upd2_ne _ _ hc2, upd2_ne _ _ (by rintro ⟨rfl, h⟩; exact hc2 ⟨rfl, by simp at h; exact h.2⟩), upd2_ne _ _ (by rintro ⟨rfl, h⟩; exact hc2 ⟨rfl, by simp at h; exact h.2⟩)]
  · by_cases hc : s' = s ∧ π' = b :: π
    · obtain ⟨rfl, rfl⟩ := hc
      rw [upd2_same] at hn'
      cases hn'
    · rw [upd2_ne _ _ hc] at hn'
      exact h.bare s' π' hn'
/-- A node's cells. -/
theorem TrIs.at_ (h : TrIs w T bl ad th ow) (ha : ad s π = some (g, o)) : w.cell? ⟨g, o, none⟩ = some (.int .i64 (ow s π)) ∧ w.cell? ⟨g, o + 1, none⟩ = some (.bool (th s π)) ∧ (∀ b : Bool, w.cell? ⟨g, o + (2 + b.toNat), none⟩ = some (kidV (ad s (b :: π)))) := by
  obtain ⟨_, h2, _⟩ := h.cells s π g o ha
  refine ⟨h2 0 _ rfl, h2 1 _ rfl, fun b => ?_⟩
  cases b with
  | false => exact h2 2 _ rfl
  | true => exact h2 3 _ rfl
end

/-- What the two tries of an address have: the owner of the longest prefix of the first bits. -/
def bestV (th : List Bool → Bool) (ow : List Bool → Int) (l : List UInt8) : Nat → Int × Bool
  | 0 => (0, false)
  | i + 1 => if th (pathR l i) then (ow (pathR l i), true) else bestV th ow l i
theorem best_stop {th : List Bool → Bool} {ow : List Bool → Int} {l : List UInt8} {i : Nat} (h : ∀ j, i ≤ j → th (pathR l j) = false) : ∀ k, bestV th ow l (i + k) = bestV th ow l i
  | 0 => rfl
  | k + 1 => by
    show bestV th ow l (i + k + 1) = _
    rw [bestV, h (i + k) (by omega), best_stop h k]
    rfl
theorem path_none {bl : List Nat} {T : Nat} {ad : Ads} (h : TrAds bl T ad) {s : Bool} {l : List UInt8} {i : Nat} (hn : ad s (pathR l i) = none) : ∀ k, ad s (pathR l (i + k)) = none
  | 0 => hn
  | k + 1 => by
    cases hc : ad s (pathR l (i + (k + 1))) with
    | none => rfl
    | some p =>
      have := h.up s (bitN l (i + k) == 1) (pathR l (i + k)) (by show (ad s (pathR l (i + (k + 1)))).isSome = true; rw [hc]; rfl)
      rw [path_none h hn k] at this
      cases this
end
section
open Go.RowKit Go.Deep

theorem less_irrefl : ∀ l : List UInt8, Op.bytesLess l l = false
  | [] => rfl
  | a :: l => by simp [Op.bytesLess, less_irrefl l, UInt8.lt_irrefl]
theorem less_trans : ∀ {l m k : List UInt8}, Op.bytesLess l m = true → Op.bytesLess m k = true → Op.bytesLess l k = true
  | _, _, [], _, h => by simp [Op.bytesLess] at h
  | [], _, _ :: _, _, _ => rfl
  | a :: l, [], c :: k, h, _ => by simp [Op.bytesLess] at h
  | a :: l, b :: m, c :: k, h1, h2 => by
    simp only [Op.bytesLess, Bool.or_eq_true, Bool.and_eq_true, decide_eq_true_eq, beq_iff_eq] at h1 h2 ⊢
    rcases h1 with h1 | ⟨rfl, h1⟩
    · rcases h2 with h2 | ⟨rfl, h2⟩
      · exact .inl (UInt8.lt_trans h1 h2)
      · exact .inl h1
    · rcases h2 with h2 | ⟨rfl, h2⟩
      · exact .inl h2
      · exact .inr ⟨rfl, less_trans h1 h2⟩
theorem less_total : ∀ {l m : List UInt8}, l ≠ m → Op.bytesLess l m = true ∨ Op.bytesLess m l = true
  | [], [], h => absurd rfl h
  | [], _ :: _, _ => .inl rfl
  | _ :: _, [], _ => .inr rfl
  | a :: l, b :: m, h => by
    simp only [Op.bytesLess, Bool.or_eq_true, Bool.and_eq_true, decide_eq_true_eq, beq_iff_eq]
    by_cases e : a = b
    · subst e
      rcases less_total (l := l) (m := m) (fun e => h (by rw [e])) with h1 | h1
      · exact .inl (.inr ⟨rfl, h1⟩)
      · exact .inr (.inr ⟨rfl, h1⟩)
    · rcases UInt8.lt_or_lt_of_ne e with h1 | h1
      · exact .inl (.inl h1)
      · exact .inr (.inl h1)
/-- The first place where two lists differ decides. -/
theorem less_at : ∀ {l m : List UInt8} (k : Nat), l.length = m.length → k < l.length → (∀ i, i < k → l.getD i 0 = m.getD i 0) → (l.getD k 0).toNat < (m.getD k 0).toNat → Op.bytesLess l m = true
  | [], _, k, _, hk, _, _ => by simp at hk
  | _ :: _, [], _, hl, _, _, _ => by simp at hl
  | a :: l, b :: m, 0, _, _, _, h => by
    simp only [List.getD_cons_zero] at h
    simp only [Op.bytesLess, Bool.or_eq_true, decide_eq_true_eq]
    exact .inl (UInt8.lt_iff_toNat_lt.2 h)
  | a :: l, b :: m, k + 1, hl, hk, he, h => by
    have h0 := he 0 (by omega)
    simp only [List.getD_cons_zero] at h0
    subst h0
    simp only [Op.bytesLess, Bool.or_eq_true, Bool.and_eq_true, beq_iff_eq]
    refine .inr ⟨by trivial, less_at k (by simpa using hl) (by simpa using hk) (fun i hi => ?_) ?_⟩
    · simpa using he (i + 1) (by omega)
    · simpa using h
theorem less_le : ∀ {l m : List UInt8}, l.length = m.length → (∀ i, i < l.length → (l.getD i 0).toNat ≤ (m.getD i 0).toNat) → l = m ∨ Op.bytesLess l m = true
  | [], [], _, _ => .inl rfl
  | [], _ :: _, h, _ => by simp at h
  | _ :: _, [], h, _ => by simp at h
  | a :: l, b :: m, hl, h => by
    have h0 := h 0 (by simp)
    simp only [List.getD_cons_zero] at h0
    simp only [Op.bytesLess, Bool.or_eq_true, Bool.and_eq_true, decide_eq_true_eq, beq_iff_eq]
    by_cases e : a = b
    · subst e
      rcases less_le (l := l) (m := m) (by simpa using hl) (fun i hi => by simpa using h (i + 1) (by simpa using hi)) with h1 | h1
      · exact .inl (by rw [h1])
      · exact .inr (.inr ⟨rfl, h1⟩)
    · refine .inr (.inl (UInt8.lt_iff_toNat_lt.2 (Nat.lt_of_le_of_ne h0 fun h2 => e (UInt8.toNat_inj.1 h2))))

/-- A row: a prefix's bytes and bits, and its owner. -/
abbrev Rw := List UInt8 × Nat × Int
def befV (a b : List UInt8 × Nat) : Bool :=
  if a.1.length = b.1.length then (if a.1 = b.1 then decide (a.2 < b.2) else Op.bytesLess a.1 b.1) else decide (a.1.length < b.1.length)
def pf (r : Rw) : List UInt8 × Nat := (r.1, r.2.1)
theorem bef_irrefl (a : List UInt8 × Nat) : befV a a = false := by unfold befV; simp
theorem bef_trans {a b c : List UInt8 × Nat} (h1 : befV a b = true) (h2 : befV b c = true) : befV a c = true := by
  obtain ⟨a, i⟩ := a; obtain ⟨b, j⟩ := b; obtain ⟨c, k⟩ := c
  unfold befV at *
  simp only at *
  by_cases e1 : a.length = b.length
  · by_cases e2 : b.length = c.length
    · rw [if_pos e1] at h1
      rw [if_pos e2] at h2
      rw [if_pos (e1.trans e2)]
      by_cases f1 : a = b
      · subst f1
        rw [if_pos rfl] at h1
        by_cases f2 : a = c
        · subst f2
          rw [if_pos rfl] at h2
          rw [if_pos rfl]
          simp only [decide_eq_true_eq] at *
          omega
        · rw [if_neg f2] at h2 ⊢
          exact h2
      · rw [if_neg f1] at h1
        by_cases f2 : b = c
        · subst f2
          rw [if_neg f1]
          exact h1
        · rw [if_neg f2] at h2
          have h3 := less_trans h1 h2
          rw [if_neg (fun e => by subst e; rw [less_irrefl] at h3; cases h3)]
          exact h3
    · rw [if_neg e2] at h2
      rw [if_neg (by omega), e1]
      exact h2
  · rw [if_neg e1] at h1
    simp only [decide_eq_true_eq] at h1
    by_cases e2 : b.length = c.length
    · rw [if_neg (by omega)]
      simp only [decide_eq_true_eq]
      omega
    · rw [if_neg e2] at h2
      simp only [decide_eq_true_eq] at h2
      rw [if_neg (by omega)]
      simp only [decide_eq_true_eq]
      omega
theorem bef_total {a b : List UInt8 × Nat} (h : a ≠ b) : befV a b = true ∨ befV b a = true := by
  obtain ⟨a, i⟩ := a; obtain ⟨b, j⟩ := b
  unfold befV
  simp only
  by_cases e1 : a.length = b.length
  · rw [if_pos e1, if_pos e1.symm]
    by_cases f : a = b
    · subst f
      rw [if_pos rfl, if_pos rfl]
      have : i ≠ j := fun e => h (by rw [e])
      simp only [decide_eq_true_eq]
      omega
    · rw [if_neg f, if_neg (fun e => f e.symm)]
      exact less_total f
  · rw [if_neg e1, if_neg (fun e => e1 e.symm)]
    simp only [decide_eq_true_eq]
    omega

def Srt (l : List Rw) : Prop := l.Pairwise fun a b => befV (pf a) (pf b) = true
theorem srt_ext : ∀ {l m : List Rw}, Srt l → Srt m → (∀ x, x ∈ l ↔ x ∈ m) → l = m
  | [], [], _, _, _ => rfl
  | [], b :: m, _, _, h => by have := (h b).2 List.mem_cons_self; cases this
  | a :: l, [], _, _, h => by have := (h a).1 List.mem_cons_self; cases this
  | a :: l, b :: m, h1, h2, h => by
    have h1' := List.pairwise_cons.1 h1
    have h2' := List.pairwise_cons.1 h2
    have e : a = b := by
      rcases List.mem_cons.1 ((h a).1 List.mem_cons_self) with e | ha
      · exact e
      · rcases List.mem_cons.1 ((h b).2 List.mem_cons_self) with e | hb
        · exact e.symm
        · have := bef_trans (h1'.1 b hb) (h2'.1 a ha)
          rw [bef_irrefl] at this
          cases this
    subst e
    rw [srt_ext h1'.2 h2'.2 fun x => ?_]
    constructor
    · intro hx
      rcases List.mem_cons.1 ((h x).1 (List.mem_cons_of_mem _ hx)) with e | h3
      · subst e
        have := h1'.1 x hx
        rw [bef_irrefl] at this
        cases this
      · exact h3
    · intro hx
      rcases List.mem_cons.1 ((h x).2 (List.mem_cons_of_mem _ hx)) with e | h3
      · subst e
        have := h2'.1 x hx
        rw [bef_irrefl] at this
        cases this
      · exact h3
theorem srt_one {l : List Rw} (h : Srt l) {a b : Rw} (ha : a ∈ l) (hb : b ∈ l) (he : pf a = pf b) : a = b := by
  induction l with
  | nil => cases ha
  | cons c l ih =>
    have h' := List.pairwise_cons.1 h
    rcases List.mem_cons.1 ha with ea | ha
    · rcases List.mem_cons.1 hb with eb | hb
      · rw [ea, eb]
      · have := h'.1 b hb
        rw [← ea, he, bef_irrefl] at this
        cases this
    · rcases List.mem_cons.1 hb with eb | hb
      · have := h'.1 a ha
        rw [← eb, ← he, bef_irrefl] at this
        cases this
      · exact ih h'.2 ha hb

/-- What the reference makes of the rows. -/
def delV (m : List Rw) (p : List UInt8 × Nat) : List Rw := m.eraseP fun r => decide (pf r = p)
def wasV (m : List Rw) (p : List UInt8 × Nat) : Bool := m.any fun r => decide (pf r = p)
def putV (m : List Rw) (p : List UInt8 × Nat) (x : Int) : List Rw :=
  (delV m p).takeWhile (fun r => befV (pf r) p) ++ (p.1, p.2, x) :: (delV m p).dropWhile (fun r => befV (pf r) p)
def dropV (m : List Rw) (x : Int) : List Rw := m.filter fun r => decide (r.2.2 ≠ x)
theorem del_srt {m : List Rw} (h : Srt m) (p : List UInt8 × Nat) : Srt (delV m p) := h.sublist List.eraseP_sublist
theorem drop_srt {m : List Rw} (h : Srt m) (x : Int) : Srt (dropV m x) := h.sublist List.filter_sublist
theorem mem_del {m : List Rw} (h : Srt m) {p : List UInt8 × Nat} {r : Rw} : r ∈ delV m p ↔ r ∈ m ∧ pf r ≠ p := by
  unfold delV
  induction m with
  | nil => simp
  | cons a m ih =>
    have h' := List.pairwise_cons.1 h
    by_cases e : pf a = p
    · rw [List.eraseP_cons_of_pos (by simpa using e)]
      constructor
      · intro hr
        refine ⟨List.mem_cons_of_mem _ hr, fun he => ?_⟩
        have := h'.1 r hr
        rw [e, he, bef_irrefl] at this
        cases this
      · rintro ⟨hr, hne⟩
        rcases List.mem_cons.1 hr with rfl | hr
        · exact absurd e hne
        · exact hr
    · rw [List.eraseP_cons_of_neg (by simpa using e), List.mem_cons, ih h'.2, List.mem_cons]
      constructor
      · rintro (rfl | ⟨h1, h2⟩)
        · exact ⟨.inl rfl, e⟩
        · exact ⟨.inr h1, h2⟩
      · rintro ⟨rfl | h1, h2⟩
        · exact .inl rfl
        · exact .inr ⟨h1, h2⟩
theorem mem_take_drop {α : Type} {p : α → Bool} {l : List α} {x : α} : x ∈ l ↔ x ∈ l.takeWhile p ∨ x ∈ l.dropWhile p := by
  conv => lhs; rw [← List.takeWhile_append_dropWhile (p := p) (l := l)]
  exact List.mem_append
theorem mem_put {m : List Rw} (h : Srt m) {p : List UInt8 × Nat} {x : Int} {r : Rw} : r ∈ putV m p x ↔ r = (p.1, p.2, x) ∨ (r ∈ m ∧ pf r ≠ p) := by
  unfold putV
  rw [← mem_del h, mem_take_drop (p := fun r => befV (pf r) p) (l := delV m p), List.mem_append, List.mem_cons]
  constructor
  · rintro (h | h | h)
    · exact .inr (.inl h)
    · exact .inl h
    · exact .inr (.inr h)
  · rintro (h | h | h)
    · exact .inr (.inl h)
    · exact .inl h
    · exact .inr (.inr h)
theorem take_all {p : Rw → Bool} : ∀ {l : List Rw} {x : Rw}, x ∈ l.takeWhile p → p x = true
  | a :: l, x, h => by
    rw [List.takeWhile_cons] at h
    split at h
    · rename_i hp
      rcases List.mem_cons.1 h with rfl | h
      · exact hp
      · exact take_all h
    · cases h
theorem drop_not {p : List UInt8 × Nat} : ∀ {l : List Rw}, Srt l → (∀ r ∈ l, pf r ≠ p) → ∀ x ∈ l.dropWhile (fun r => befV (pf r) p), befV p (pf x) = true
  | [], _, _, _, h => by cases h
  | a :: l, hs, hn, x, h => by
    have h' := List.pairwise_cons.1 hs
    rw [List.dropWhile_cons] at h
    split at h
    · exact drop_not h'.2 (fun r hr => hn r (List.mem_cons_of_mem _ hr)) x h
    · rename_i hp
      have ha : befV p (pf a) = true := (bef_total (hn a List.mem_cons_self)).resolve_left hp
      rcases List.mem_cons.1 h with rfl | h
      · exact ha
      · exact bef_trans ha (h'.1 x h)
theorem put_srt {m : List Rw} (h : Srt m) (p : List UInt8 × Nat) (x : Int) : Srt (putV m p x) := by
  have hd := del_srt h p
  have hn : ∀ r ∈ delV m p, pf r ≠ p := fun r hr => ((mem_del h).1 hr).2
  have hdr := drop_not hd hn
  unfold putV
  refine List.pairwise_append.2 ⟨hd.sublist (List.takeWhile_sublist _), List.pairwise_cons.2 ⟨fun y hy => hdr y hy, hd.sublist (List.dropWhile_sublist _)⟩, fun a ha b hb => ?_⟩
  have ha' := take_all ha
  rcases List.mem_cons.1 hb with rfl | hb
  · exact ha'
  · exact bef_trans ha' (hdr b hb)
end
end Go.Proofs.Ytokaobilphfdoaa

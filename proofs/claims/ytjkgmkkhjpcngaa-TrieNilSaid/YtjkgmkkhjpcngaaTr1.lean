/-
  A trie in memory, by its nodes: words and laws. Plain theorems on memory. No condition.
-/
import Derived.Test.YtjkgmkkhjpcngaaAdl
namespace Go.Proofs.Ytjkgmkkhjpcngaa
open Go.RowKit Go.Deep

/-- The first bits of an address, the last one ahead. -/
def pathR (l : List UInt8) : Nat → List Bool
  | 0 => []
  | i + 1 => (bitN l i == 1) :: pathR l i

def kidV (a : Option (Nat × Nat)) : Value := .pointer (a.map fun p => ⟨p.1, p.2, none⟩)
def nodeC (o : Int) (t : Bool) (a b : Option (Nat × Nat)) : List Value := [.int .i64 o, .bool t, kidV a, kidV b]
/-- Where the nodes of the two tries lie (false: the one of four bytes). -/
abbrev Ads := Bool → List Bool → Option (Nat × Nat)

/-- The nodes' cells. -/
def NodesAt (w : World) (ad : Ads) (C : Bool → List Bool → List Value) : Prop :=
  ∀ s π g o, ad s π = some (g, o) → g < w.heap.size ∧ (∀ j u, (C s π)[j]? = some u → w.cell? ⟨g, o + j, none⟩ = some u) ∧ ∀ j, w.frozen? ⟨g, o + j, none⟩ = false

def rootOff (s : Bool) : Nat := if s then 4 else 0
structure TrAds (bl : List Nat) (T : Nat) (ad : Ads) : Prop where
  root : ∀ s, ad s [] = some (T, rootOff s)
  up : ∀ s b π, (ad s (b :: π)).isSome = true → (ad s π).isSome = true
  mem : ∀ s π g o, ad s π = some (g, o) → g ∈ bl
  inj : ∀ s π s' π' g o o', ad s π = some (g, o) → ad s' π' = some (g, o') → (s = s' ∧ π = π') ∨ (π = [] ∧ π' = [])

structure TrIs (w : World) (T : Nat) (bl : List Nat) (ad : Ads) (th : Bool → List Bool → Bool) (ow : Bool → List Bool → Int) : Prop where
  ads : TrAds bl T ad
  lt : ∀ g ∈ bl, g < w.heap.size
  cells : NodesAt w ad fun s π => nodeC (ow s π) (th s π) (ad s (false :: π)) (ad s (true :: π))
  bare : ∀ s π, ad s π = none → th s π = false ∧ ow s π = 0

theorem frozen_only {S : List Nat} {w w' : World} (ho : Only S w w') {a : Addr} (hb : a.block < w.heap.size) (hs : a.block ∉ S) : w'.frozen? a = w.frozen? a := by
  unfold World.frozen?
  rw [ho.block a.block hb hs]

theorem NodesAt.only {w w' : World} {ad : Ads} {C : Bool → List Bool → List Value} {S : List Nat} (h : NodesAt w ad C) (ho : Only S w w') (hs : ∀ s π g o, ad s π = some (g, o) → g ∉ S) : NodesAt w' ad C := by
  intro s π g o ha
  obtain ⟨h1, h2, h3⟩ := h s π g o ha
  refine ⟨Nat.lt_of_lt_of_le h1 ho.size, fun j u hu => ?_, fun j => ?_⟩
  · rw [cell_only ho (a := ⟨g, o + j, none⟩) h1 (hs s π g o ha)]; exact h2 j u hu
  · rw [frozen_only ho (a := ⟨g, o + j, none⟩) h1 (hs s π g o ha)]; exact h3 j
theorem TrIs.only {w w' : World} {T : Nat} {bl S : List Nat} {ad : Ads} {th : Bool → List Bool → Bool} {ow : Bool → List Bool → Int} (h : TrIs w T bl ad th ow) (ho : Only S w w') (hs : ∀ x ∈ S, x ∉ bl) : TrIs w' T bl ad th ow :=
  ⟨h.ads, fun g hg => Nat.lt_of_lt_of_le (h.lt g hg) ho.size, h.cells.only ho (fun s π g o ha hS => hs g hS (h.ads.mem s π g o ha)), h.bare⟩

theorem addr_ne {g o i g' o' j : Nat} (h : g ≠ g' ∨ o + i ≠ o' + j) : (⟨g, o + i, none⟩ : Addr) ≠ ⟨g', o' + j, none⟩ := by
  intro e
  injection e with e1 e2
  rcases h with h | h
  · exact h e1
  · exact h e2
theorem TrAds.sep {bl : List Nat} {T : Nat} {ad : Ads} (h : TrAds bl T ad) {s s' : Bool} {π π' : List Bool} {g o g' o' : Nat} (h1 : ad s π = some (g, o)) (h2 : ad s' π' = some (g', o')) (hne : ¬ (s = s' ∧ π = π')) {i j : Nat} (hi : i < 4) (hj : j < 4) :
    g ≠ g' ∨ o + i ≠ o' + j := by
  by_cases hg : g = g'
  · subst hg
    rcases h.inj s π s' π' g o o' h1 h2 with h3 | ⟨rfl, rfl⟩
    · exact absurd h3 hne
    · right
      rw [h.root] at h1 h2
      injection h1 with h1
      injection h2 with h2
      injection h1 with _ e1
      injection h2 with _ e2
      subst e1 e2
      cases s <;> cases s' <;> simp_all [rootOff] <;> omega
  · exact .inl hg

def upd2 {α : Type} (f : Bool → List Bool → α) (s : Bool) (π : List Bool) (x : α) : Bool → List Bool → α := fun s' π' => if s' = s ∧ π' = π then x else f s' π'
theorem upd2_same {α : Type} (f : Bool → List Bool → α) (s : Bool) (π : List Bool) (x : α) : upd2 f s π x s π = x := by unfold upd2; rw [if_pos ⟨rfl, rfl⟩]
theorem upd2_ne {α : Type} (f : Bool → List Bool → α) {s s' : Bool} {π π' : List Bool} (x : α) (h : ¬ (s' = s ∧ π' = π)) : upd2 f s π x s' π' = f s' π' := by unfold upd2; rw [if_neg h]

theorem NodesAt.set {w : World} {T : Nat} {bl : List Nat} {ad : Ads} {C : Bool → List Bool → List Value} (h : NodesAt w ad C) (hA : TrAds bl T ad) (hC : ∀ s π, (C s π).length = 4) {s : Bool} {π : List Bool} {g o : Nat} (ha : ad s π = some (g, o)) (i : Nat) (hi : i < 4) (v : Value) :
    NodesAt (w.setCell ⟨g, o + i, none⟩ v) ad (upd2 C s π ((C s π).set i v)) := by
  intro s' π' g' o' ha'
  obtain ⟨h1, h2, h3⟩ := h s' π' g' o' ha'
  refine ⟨by simpa [World.setCell] using h1, fun j u hu => ?_, fun j => by simpa [World.frozen?_setCell] using h3 j⟩
  by_cases hsame : s' = s ∧ π' = π
  · obtain ⟨rfl, rfl⟩ := hsame
    rw [upd2_same] at hu
    rw [ha] at ha'
    injection ha' with ha'
    injection ha' with e1 e2
    subst e1 e2
    rw [List.getElem?_set] at hu
    by_cases hij : i = j
    · subst hij
      rw [if_pos rfl, if_pos (by rw [hC]; exact hi)] at hu
      injection hu with hu
      subst hu
      obtain ⟨x, hx⟩ : ∃ x, (C s' π')[i]? = some x := ⟨_, List.getElem?_eq_getElem (by rw [hC]; exact hi)⟩
      exact World.cell?_setCell_same _ _ _ (h2 i x hx)
    · rw [if_neg hij] at hu
      rw [World.cell?_setCell_other _ _ _ _ (addr_ne (.inr (by omega)))]
      exact h2 j u hu
  · rw [upd2_ne _ _ hsame] at hu
    have hj : j < 4 := by rw [← hC s' π']; exact (List.getElem?_eq_some_iff.1 hu).1
    rw [World.cell?_setCell_other _ _ _ _ (addr_ne (hA.sep ha' ha hsame hj hi)).symm]
    exact h2 j u hu
end Go.Proofs.Ytjkgmkkhjpcngaa

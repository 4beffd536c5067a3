/-
  A trie in memory: what a store and a new node make of it. Plain theorems on memory. No condition.
-/
import Derived.Test.YtjkgmkkhjpcngaaTr1
namespace Go.Proofs.Ytjkgmkkhjpcngaa
open Go.RowKit Go.Deep

theorem nodeC_len (o : Int) (t : Bool) (a b : Option (Nat × Nat)) : (nodeC o t a b).length = 4 := rfl
theorem cons_ne {b : Bool} {π : List Bool} : b :: π ≠ π := by
  intro h
  have := congrArg List.length h
  simp at this

section
variable {w : World} {T : Nat} {bl : List Nat} {ad : Ads} {th : Bool → List Bool → Bool} {ow : Bool → List Bool → Int} {s : Bool} {π : List Bool} {g o : Nat}
theorem TrIs.set_ow (h : TrIs w T bl ad th ow) (ha : ad s π = some (g, o)) (x : Int) : TrIs (w.setCell ⟨g, o, none⟩ (.int .i64 x)) T bl ad th (upd2 ow s π x) := by
  have hs := h.cells.set h.ads (fun _ _ => rfl) ha 0 (by omega) (.int .i64 x)
  refine ⟨h.ads, fun k hk => by simpa [World.setCell] using h.lt k hk, ?_, fun s' π' hn => ?_⟩
  · have e : (upd2 (fun s π => nodeC (ow s π) (th s π) (ad s (false :: π)) (ad s (true :: π))) s π ((nodeC (ow s π) (th s π) (ad s (false :: π)) (ad s (true :: π))).set 0 (.int .i64 x))) = fun s' π' => nodeC (upd2 ow s π x s' π') (th s' π') (ad s' (false :: π')) (ad s' (true :: π')) := by
      funext s' π'
      by_cases hc : s' = s ∧ π' = π
      · obtain ⟨rfl, rfl⟩ := hc; rw [upd2_same, upd2_same]; rfl
      · rw [upd2_ne _ _ hc, upd2_ne _ _ hc]
    rw [← e]
    exact hs
  · have hc : ¬ (s' = s ∧ π' = π) := by rintro ⟨rfl, rfl⟩; rw [ha] at hn; cases hn
    rw [upd2_ne _ _ hc]
    exact h.bare s' π' hn
theorem TrIs.set_th (h : TrIs w T bl ad th ow) (ha : ad s π = some (g, o)) (x : Bool) : TrIs (w.setCell ⟨g, o + 1, none⟩ (.bool x)) T bl ad (upd2 th s π x) ow := by
  have hs := h.cells.set h.ads (fun _ _ => rfl) ha 1 (by omega) (.bool x)
  refine ⟨h.ads, fun k hk => by simpa [World.setCell] using h.lt k hk, ?_, fun s' π' hn => ?_⟩
  · have e : (upd2 (fun s π => nodeC (ow s π) (th s π) (ad s (false :: π)) (ad s (true :: π))) s π ((nodeC (ow s π) (th s π) (ad s (false :: π)) (ad s (true :: π))).set 1 (.bool x))) = fun s' π' => nodeC (ow s' π') (upd2 th s π x s' π') (ad s' (false :: π')) (ad s' (true :: π')) := by
      funext s' π'
      by_cases hc : s' = s ∧ π' = π
      · obtain ⟨rfl, rfl⟩ := hc; rw [upd2_same, upd2_same]; rfl
      · rw [upd2_ne _ _ hc, upd2_ne _ _ hc]
    rw [← e]
    exact hs
  · have hc : ¬ (s' = s ∧ π' = π) := by rintro ⟨rfl, rfl⟩; rw [ha] at hn; cases hn
    rw [upd2_ne _ _ hc]
    exact h.bare s' π' hn
theorem TrIs.new_kid (h : TrIs w T bl ad th ow) (ha : ad s π = some (g, o)) (b : Bool) (hn : ad s (b :: π) = none) (t : TypeId) :
    TrIs ((w.alloc (.cells #[.int .i64 0, .bool false, .pointer none, .pointer none] t)).setCell ⟨g, o + (2 + b.toNat), none⟩ (.pointer (some ⟨w.heap.size, 0, none⟩))) T (w.heap.size :: bl) (upd2 ad s (b :: π) (some (w.heap.size, 0))) th ow := by
  have hg := h.lt g (h.ads.mem s π g o ha)
  have hb2 : 2 + b.toNat < 4 := by cases b <;> decide
  have hs := (h.cells.only ((Only.refl [] w).alloc (.cells #[.int .i64 0, .bool false, .pointer none, .pointer none] t)) (fun _ _ _ _ _ => by simp)).set h.ads (fun _ _ => rfl) ha (2 + b.toNat) hb2 (.pointer (some ⟨w.heap.size, 0, none⟩))
  have hmiss : ∀ c, ad s (c :: b :: π) = none := by
    intro c
    cases hc : ad s (c :: b :: π) with
    | none => rfl
    | some p =>
      have := h.ads.up s c (b :: π) (by rw [hc]; rfl)
      rw [hn] at this
      cases this
  refine ⟨⟨fun s' => ?_, fun s' c π' hsome => ?_, fun s' π' g' o' ha' => ?_, fun s1 π1 s2 π2 g' o1 o2 h1 h2 => ?_⟩, fun k hk => ?_, ?_, fun s' π' hn' => ?_⟩
  · rw [upd2_ne _ _ (by rintro ⟨_, h⟩; cases h)]
    exact h.ads.root s'
  · by_cases hc : s' = s ∧ π' = b :: π
    · obtain ⟨rfl, rfl⟩ := hc
      rw [upd2_same]; rfl
    · rw [upd2_ne _ _ hc]
      by_cases hc2 : s' = s ∧ c :: π' = b :: π
      · obtain ⟨rfl, h2⟩ := hc2
        injection h2 with _ h2
        subst h2
        rw [ha]; rfl
      · rw [upd2_ne _ _ hc2] at hsome
        exact h.ads.up s' c π' hsome
  · by_cases hc : s' = s ∧ π' = b :: π
    · obtain ⟨rfl, rfl⟩ := hc
      rw [upd2_same] at ha'
      injection ha' with ha'
      injection ha' with e1 _
      rw [← e1]
      exact List.mem_cons_self
    · rw [upd2_ne _ _ hc] at ha'
      exact List.mem_cons_of_mem _ (h.ads.mem s' π' g' o' ha')
  · by_cases hc1 : s1 = s ∧ π1 = b :: π
    · by_cases hc2 : s2 = s ∧ π2 = b :: π
      · obtain ⟨rfl, rfl⟩ := hc1
        obtain ⟨rfl, rfl⟩ := hc2
        exact .inl ⟨rfl, rfl⟩
      · obtain ⟨rfl, rfl⟩ := hc1
        rw [upd2_same] at h1
        rw [upd2_ne _ _ hc2] at h2
        injection h1 with h1
        injection h1 with e1 _
        have := h.lt _ (h.ads.mem _ _ _ _ h2)
        omega
    · rw [upd2_ne _ _ hc1] at h1
      by_cases hc2 : s2 = s ∧ π2 = b :: π
      · obtain ⟨rfl, rfl⟩ := hc2
        rw [upd2_same] at h2
        injection h2 with h2
        injection h2 with e2 _
        have := h.lt _ (h.ads.mem _ _ _ _ h1)
        omega
      · rw [upd2_ne _ _ hc2] at h2
        exact h.ads.inj _ _ _ _ _ _ _ h1 h2
  · rcases List.mem_cons.1 hk with rfl | hk
    · simp [World.setCell]
    · have := h.lt k hk
      simp [World.setCell]
      omega
  · intro s' π' g' o' ha'
    by_cases hc : s' = s ∧ π' = b :: π
    · obtain ⟨rfl, rfl⟩ := hc
      rw [upd2_same] at ha'
      injection ha' with ha'
      injection ha' with e1 e2
      subst e1 e2
      obtain ⟨e3, e4⟩ := h.bare _ _ hn
      have hB := (Blk.new w t #[.int .i64 0, .bool false, .pointer none, .pointer none]).far (p := ⟨g, o + (2 + b.toNat), none⟩) (show w.heap.size ≠ g by omega) (.pointer (some ⟨w.heap.size, 0, none⟩))
      refine ⟨hB.lt, fun j u hu => ?_, fun j => hB.frozen _⟩
      rw [Nat.zero_add, hB.cell]
      dsimp only at hu
      rw [e3, e4, upd2_ne _ _ (by rintro ⟨_, h⟩; exact cons_ne h), upd2_ne _ _ (by rintro ⟨_, h⟩; exact cons_ne h), hmiss, hmiss] at hu
      simpa [nodeC, kidV] using hu
    · rw [upd2_ne _ _ hc] at ha'
      obtain ⟨h1, h2, h3⟩ := hs s' π' g' o' ha'
      refine ⟨h1, fun j u hu => h2 j u ?_, h3⟩
      rw [← hu]
      congr 1
      dsimp only
      by_cases hc2 : s' = s ∧ π' = π
      · obtain ⟨rfl, rfl⟩ := hc2
        rw [upd2_same]
        cases b with
        | false => rw [upd2_same, upd2_ne _ _ (by rintro ⟨_, h⟩; simp at h)]; rfl
        | true => rw [upd2_same, upd2_ne _ _ (by rintro ⟨_, h⟩; simp at h)]; rfl
      · rw [upd2_ne _ _ hc2, upd2_ne _ _ (by rintro ⟨rfl, h⟩; exact hc2 ⟨rfl, by simp at h; exact h.2⟩), upd2_ne _ _ (by rintro ⟨rfl, h⟩; exact hc2 ⟨rfl, by simp at h; exact h.2⟩)]
  · by_cases hc : s' = s ∧ π' = b :: π
    · obtain ⟨rfl, rfl⟩ := hc
      rw [upd2_same] at hn'
      cases hn'
    · rw [upd2_ne _ _ hc] at hn'
      exact h.bare s' π' hn'
/-- A node's cells. -/
theorem TrIs.at_ (h : TrIs w T bl ad th ow) (ha : ad s π = some (g, o)) : w.cell? ⟨g, o, none⟩ = some (.int .i64 (ow s π)) ∧ w.cell? ⟨g, o + 1, none⟩ = some (.bool (th s π)) ∧ (∀ b : Bool, w.cell? ⟨g, o + (2 + b.toNat), none⟩ = some (kidV (ad s (b :: π)))) := by
  obtain ⟨_, h2, _⟩ := h.cells s π g o ha
  refine ⟨h2 0 _ rfl, h2 1 _ rfl, fun b => ?_⟩
  cases b with
  | false => exact h2 2 _ rfl
  | true => exact h2 3 _ rfl
end

/-- What the two tries of an address have: the owner of the longest prefix of the first bits. -/
def bestV (th : List Bool → Bool) (ow : List Bool → Int) (l : List UInt8) : Nat → Int × Bool
  | 0 => (0, false)
  | i + 1 => if th (pathR l i) then (ow (pathR l i), true) else bestV th ow l i
theorem best_stop {th : List Bool → Bool} {ow : List Bool → Int} {l : List UInt8} {i : Nat} (h : ∀ j, i ≤ j → th (pathR l j) = false) : ∀ k, bestV th ow l (i + k) = bestV th ow l i
  | 0 => rfl
  | k + 1 => by
    show bestV th ow l (i + k + 1) = _
    rw [bestV, h (i + k) (by omega), best_stop h k]
    rfl
theorem path_none {bl : List Nat} {T : Nat} {ad : Ads} (h : TrAds bl T ad) {s : Bool} {l : List UInt8} {i : Nat} (hn : ad s (pathR l i) = none) : ∀ k, ad s (pathR l (i + k)) = none
  | 0 => hn
  | k + 1 => by
    cases hc : ad s (pathR l (i + (k + 1))) with
    | none => rfl
    | some p =>
      have := h.up s (bitN l (i + k) == 1) (pathR l (i + k)) (by show (ad s (pathR l (i + (k + 1)))).isSome = true; rw [hc]; rfl)
      rw [path_none h hn k] at this
      cases this
end Go.Proofs.Ytjkgmkkhjpcngaa

/-
  Contract of the law's awake (sky), by walking.
-/
import Derived.Test.YtkihjgcjapkgpaaSky9
namespace Go.Proofs.Ytkihjgcjapkgpaa
open Go.RowKit Go.Deep

theorem rds_lit {α : Type} {k : Nat} {F : α → List Value} (hk : ∀ p, (F p).length = k) (hk0 : 0 < k) (w : World) (N : List Nat) (e : TypeId) (l : List α) (cs : Array Value) (n : Nat) (hc : cs = (l.flatMap F).toArray) (hn : n = l.length) (hm : n ≤ 1000) (hN : ∀ x ∈ N, x < w.heap.size) :
    RdS k F (w.alloc (.cells cs e)) N (.slice (some ⟨w.heap.size, 0, none⟩) n n) l := by
  subst hc hn
  have h : (w.alloc (.cells (l.flatMap F).toArray e)).ownsRow w.heap.size e k (.slice (some ⟨w.heap.size, 0, none⟩) l.length l.length) l.length (l.flatMap F) :=
    ⟨flat_len F k hk l, .inr ⟨w.heap.size, l.length, _, rfl, Nat.le_refl _, heap_alloc_new w _, Nat.le_refl _, by unfold maxLen; omega, by rw [List.size_toArray, flat_len F k hk], by rw [← flat_len F k hk l]; exact List.take_length⟩⟩
  exact (RdS.of_own hk hk0 h hN).1

set_option maxRecDepth 100000 in
theorem awake21 (w : World) : Calls Try.prog 7 #[] w fun e w' => e = .returned (.bool true) ∧ Only [] w w' := by
  have HV := hide (show chs [(0, 0), (10, 0)] (0, 0) [((1, 0, 20) : Lg)] (min 20 (tot [((1, 0, 20) : Lg)] 1)) = [(0, 0), (6, 1)] by decide +kernel)
  have r1 := rds_lit lgc_len (by omega) w [] 83 [((1, 0, 20) : Lg)] #[.int .i64 1, .int .i64 0, .int .i64 20] 1 rfl rfl (by omega) (by simp)
  have o1 := ((Only.refl [] (w.alloc (.cells #[.int .i64 1, .int .i64 0, .int .i64 20] 83))).alloc (.cells #[.int .i64 0, .int .i64 0, .slice (some ⟨w.heap.size, 0, none⟩) 1 1] 41)).alloc (.cells #[.int .i64 0, .int .i64 0, .int .i64 10, .int .i64 0] 24)
  have r1 := r1.only o1 (by simp)
  have r2 := rds_lit ptc_len (by omega) ((w.alloc (.cells #[.int .i64 1, .int .i64 0, .int .i64 20] 83)).alloc (.cells #[.int .i64 0, .int .i64 0, .slice (some ⟨w.heap.size, 0, none⟩) 1 1] 41)) [] 24 [((0 : Int), (0 : Int)), (10, 0)] #[.int .i64 0, .int .i64 0, .int .i64 10, .int .i64 0] 2 rfl rfl (by omega) (by simp)
  simp only [World.size_alloc] at r2
  have HC := hide (changes_ok _ [] [] _ _ [((0 : Int), (0 : Int)), (10, 0)] (0, 0) [((1, 0, 20) : Lg)] 20 r2 r1 (by decide) (by decide) (by intro p hp; simp at hp; rcases hp with rfl | rfl <;> (unfold Fit; decide)) (by intro g hg; simp at hg; subst hg; unfold Fit3; decide) (by unfold Fit; decide) (by decide +kernel) (by decide +kernel) (by decide))
  have HO := hide ((((Only.refl [] w).alloc (.cells #[.int .i64 1, .int .i64 0, .int .i64 20] 83)).alloc (.cells #[.int .i64 0, .int .i64 0, .slice (some ⟨w.heap.size, 0, none⟩) 1 1] 41)).alloc (.cells #[.int .i64 0, .int .i64 0, .int .i64 10, .int .i64 0] 24))
  rw [show List.length [((1, 0, 20) : Lg)] = 1 from rfl, HV.out] at HC
  clear r1 r2 o1
  go_enter Try.func7, Try.ntmps7
  go_wp2_with (go_at_call 16; refine HC.out.mono ?_; rintro e w1 ⟨v1, rfl, hr, ho⟩; have HO1 := hide (HO.out.trans ho); obtain ⟨A, cap, rfl, hcap, hm⟩ := hr.form; obtain ⟨g, o, rfl, _, hg⟩ := hr.addr (by decide); obtain ⟨a0, a1⟩ := pts_cell hr (show 0 < _ by decide); obtain ⟨b0, b1⟩ := pts_cell hr (show 1 < _ by decide); simp at a0 a1 b0 b1; clear ho hr)
  go_ret
  exact ⟨rfl, HO1.out⟩
end Go.Proofs.Ytkihjgcjapkgpaa

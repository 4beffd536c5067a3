/-
  Walks and plain words (texts No0, No1, Hs). No condition beyond those that each theorem states.
-/
import Derived.Deep.MidRow
import Derived.Test.YtfipdjlalfpbnaaGreatDoorP01
import Derived.Test.YtfipdjlalfpbnaaGreatDoorP07
import Derived.Test.YtfipdjlalfpbnaaGreatDoorP19
import Derived.Test.YtfipdjlalfpbnaaGreatDoorP25
namespace Go.Proofs.YtfipdjlalfpbnaaGreatDoor
section
open Go.RowKit Go.Deep

def termsB (l : List ByteArray) : Bool := l.all fun p => decide (kindT p ≠ 0)
def pubsB (l : List ByteArray) : Bool := l.all fun p => decide (kindT p = 5)
def madeB (l : List ByteArray) : Bool := l.all fun p => decide (p ≠ ByteArray.empty)
theorem all_no {l : List ByteArray} {f : ByteArray → Bool} {j : Nat} (hj : j < l.length) (h : f (l.getD j ByteArray.empty) = false) : l.all f = false := by
  rw [List.all_eq_false]
  refine ⟨l.getD j ByteArray.empty, ?_, by rw [h]; decide⟩
  rw [List.getD_eq_getElem?_getD, List.getElem?_eq_getElem hj]
  exact List.getElem_mem hj
theorem all_yes {l : List ByteArray} {f : ByteArray → Bool} (h : ∀ j, j < l.length → f (l.getD j ByteArray.empty) = true) : l.all f = true := by
  rw [List.all_eq_true]
  intro p hp
  obtain ⟨j, hj, rfl⟩ := List.getElem_of_mem hp
  have := h j hj
  rw [List.getD_eq_getElem?_getD, List.getElem?_eq_getElem hj] at this
  exact this
theorem empty_is (p : ByteArray) : p.toList.isEmpty = decide (p = ByteArray.empty) := by
  by_cases h : p = ByteArray.empty
  · subst h; rw [decide_eq_true rfl]; kernel_rfl
  · rw [decide_eq_false h]
    cases h2 : p.toList.isEmpty with
    | false => rfl
    | true => exact absurd (toList_inj ((List.isEmpty_iff.1 h2).trans (by kernel_rfl))) h
set_option maxRecDepth 100000 in
set_option maxHeartbeats 12800000 in
theorem Nterms_any (w : World) (v : Value) (l : List ByteArray) (hv : Rd w [] v (strs l)) (hsz : ∀ p ∈ l, p.size ≤ maxLen) : Calls Tryz.prog 88 #[v] w (RetB (termsB l) w) := by
  obtain ⟨A, cap, rfl, hc1, hc2⟩ := hv.form
  unfold maxLen at hc2
  rw [strs_length] at hv hc1 ⊢
  obtain ⟨n, hn⟩ : ∃ n, n = l.length := ⟨_, rfl⟩
  rw [← hn] at hv hc1 ⊢
  have HX := hide hv
  have HN := hide hn
  have HO := hide (Only.refl [] w)
  have HSZ := hide hsz
  clear hv hn hsz
  go_enter Tryz.func88, Tryz.ntmps88
  go_wp2_with fail
  go_loopw [7] (fun i wr => ∃ j : Nat, j ≤ n ∧ i = .int .i64 j ∧ Hid (∀ i, i < j → (fun p => decide (kindT p ≠ 0)) (l.getD i ByteArray.empty) = true) ∧ Hid (Only [] w wr)) (fun i _ => n - (intOf i).toNat)
  case atStart => exact ⟨0, Nat.zero_le _, rfl, hide (fun i h => absurd h (Nat.not_lt_zero i)), HO⟩
  case round =>
    clear HO
    obtain ⟨j, hj, rfl, HA, HO⟩ := hrel
    by_cases hlt : j < n
    · have hltI : (j : Int) < n := by omega
      have hjl : j < l.length := by rw [← HN.out]; exact hlt
      obtain ⟨g, o, rfl, _, hg, hcell⟩ := (HX.out.only HO.out (by simp)).at_.2.2.2 j _ (get_txt hjl)
      have hpz : (l.getD j ByteArray.empty).size ≤ maxLen := HSZ.out _ (by rw [List.getD_eq_getElem?_getD, List.getElem?_eq_getElem hjl]; exact List.getElem_mem hjl)
      have HK := hide (fun W => Kind_any W _ hpz)
      unfold KindPost at HK
      generalize hp : l.getD j ByteArray.empty = p at *
      rcases Bool.eq_false_or_eq_true (decide (kindT p ≠ 0)) with he | he
      · have hkb : (kindT p == 0) = false := by have := of_decide_eq_true he; rw [beq_eq_false_iff_ne]; exact this
        have HZ := hide (show ∀ i, i < j + 1 → (fun p => decide (kindT p ≠ 0)) (l.getD i ByteArray.empty) = true from fun i hi => (Nat.lt_or_eq_of_le (Nat.le_of_lt_succ hi)).elim (HA.out i) (fun h => by rw [h, hp]; exact he))
        clear hp he hpz hjl
        generalize kindT p = kk at *
        go_wp2_with (go_at_call 51; refine (HK.out _).mono ?_; rintro e w1 ⟨rfl, ho⟩; replace HO := hide (HO.out.trans ho); clear ho)
        go_roundw
        case rel => exact ⟨j + 1, by omega, by go_num, HZ, HO⟩
        case measure => simp [intOf]; omega
      · have hkb : (kindT p == 0) = true := by have := of_decide_eq_false he; rw [beq_iff_eq]; exact Decidable.not_not.1 this
        have HR := hide (show termsB l = false from all_no hjl (by rw [hp]; exact he))
        clear hp he hpz hjl
        generalize kindT p = kk at *
        go_wp2_with (go_at_call 51; refine (HK.out _).mono ?_; rintro e w1 ⟨rfl, ho⟩; replace HO := hide (HO.out.trans ho); clear ho)
        go_ret
        exact retb HR.out HO.out
    · have hge : ¬ (j : Int) < n := by omega
      have HR := hide (show termsB l = true from all_yes (fun i hi => HA.out i (by have := HN.out; omega)))
      go_wp2_with fail
      go_ret
      exact retb HR.out HO.out
set_option maxRecDepth 100000 in
set_option maxHeartbeats 12800000 in
theorem Npubs_any (w : World) (v : Value) (l : List ByteArray) (hv : Rd w [] v (strs l)) (hsz : ∀ p ∈ l, p.size ≤ maxLen) : Calls Tryz.prog 89 #[v] w (RetB (pubsB l) w) := by
  obtain ⟨A, cap, rfl, hc1, hc2⟩ := hv.form
  unfold maxLen at hc2
  rw [strs_length] at hv hc1 ⊢
  obtain ⟨n, hn⟩ : ∃ n, n = l.length := ⟨_, rfl⟩
  rw [← hn] at hv hc1 ⊢
  have HX := hide hv
  have HN := hide hn
  have HO := hide (Only.refl [] w)
  have HSZ := hide hsz
  clear hv hn hsz
  go_enter Tryz.func89, Tryz.ntmps89
  go_wp2_with fail
  go_loopw [7] (fun i wr => ∃ j : Nat, j ≤ n ∧ i = .int .i64 j ∧ Hid (∀ i, i < j → (fun p => decide (kindT p = 5)) (l.getD i ByteArray.empty) = true) ∧ Hid (Only [] w wr)) (fun i _ => n - (intOf i).toNat)
  case atStart => exact ⟨0, Nat.zero_le _, rfl, hide (fun i h => absurd h (Nat.not_lt_zero i)), HO⟩
  case round =>
    clear HO
    obtain ⟨j, hj, rfl, HA, HO⟩ := hrel
    by_cases hlt : j < n
    · have hltI : (j : Int) < n := by omega
      have hjl : j < l.length := by rw [← HN.out]; exact hlt
      obtain ⟨g, o, rfl, _, hg, hcell⟩ := (HX.out.only HO.out (by simp)).at_.2.2.2 j _ (get_txt hjl)
      have hpz : (l.getD j ByteArray.empty).size ≤ maxLen := HSZ.out _ (by rw [List.getD_eq_getElem?_getD, List.getElem?_eq_getElem hjl]; exact List.getElem_mem hjl)
      have HK := hide (fun W => Kind_any W _ hpz)
      unfold KindPost at HK
      generalize hp : l.getD j ByteArray.empty = p at *
      rcases Bool.eq_false_or_eq_true (decide (kindT p = 5)) with he | he
      · have hkb : (kindT p != 5) = false := by have := of_decide_eq_true he; rw [bne_eq_false_iff_eq]; exact this
        have HZ := hide (show ∀ i, i < j + 1 → (fun p => decide (kindT p = 5)) (l.getD i ByteArray.empty) = true from fun i hi => (Nat.lt_or_eq_of_le (Nat.le_of_lt_succ hi)).elim (HA.out i) (fun h => by rw [h, hp]; exact he))
        clear hp he hpz hjl
        generalize kindT p = kk at *
        go_wp2_with (go_at_call 51; refine (HK.out _).mono ?_; rintro e w1 ⟨rfl, ho⟩; replace HO := hide (HO.out.trans ho); clear ho)
        go_roundw
        case rel => exact ⟨j + 1, by omega, by go_num, HZ, HO⟩
        case measure => simp [intOf]; omega
      · have hkb : (kindT p != 5) = true := by have := of_decide_eq_false he; rw [bne_iff_ne]; exact this
        have HR := hide (show pubsB l = false from all_no hjl (by rw [hp]; exact he))
        clear hp he hpz hjl
        generalize kindT p = kk at *
        go_wp2_with (go_at_call 51; refine (HK.out _).mono ?_; rintro e w1 ⟨rfl, ho⟩; replace HO := hide (HO.out.trans ho); clear ho)
        go_ret
        exact retb HR.out HO.out
    · have hge : ¬ (j : Int) < n := by omega
      have HR := hide (show pubsB l = true from all_yes (fun i hi => HA.out i (by have := HN.out; omega)))
      go_wp2_with fail
      go_ret
      exact retb HR.out HO.out
set_option maxRecDepth 100000 in
set_option maxHeartbeats 12800000 in
theorem Nmade_any (w : World) (v : Value) (l : List ByteArray) (hv : Rd w [] v (strs l)) (hsz : ∀ p ∈ l, p.size ≤ maxLen) : Calls Tryz.prog 96 #[v] w (RetB (madeB l) w) := by
  obtain ⟨A, cap, rfl, hc1, hc2⟩ := hv.form
  unfold maxLen at hc2
  rw [strs_length] at hv hc1 ⊢
  obtain ⟨n, hn⟩ : ∃ n, n = l.length := ⟨_, rfl⟩
  rw [← hn] at hv hc1 ⊢
  have HX := hide hv
  have HN := hide hn
  have HO := hide (Only.refl [] w)
  have HSZ := hide hsz
  clear hv hn hsz
  go_enter Tryz.func96, Tryz.ntmps96
  go_wp2_with fail
  go_loopw [7] (fun i wr => ∃ j : Nat, j ≤ n ∧ i = .int .i64 j ∧ Hid (∀ i, i < j → (fun p => decide (p ≠ ByteArray.empty)) (l.getD i ByteArray.empty) = true) ∧ Hid (Only [] w wr)) (fun i _ => n - (intOf i).toNat)
  case atStart => exact ⟨0, Nat.zero_le _, rfl, hide (fun i h => absurd h (Nat.not_lt_zero i)), HO⟩
  case round =>
    clear HO
    obtain ⟨j, hj, rfl, HA, HO⟩ := hrel
    by_cases hlt : j < n
    · have hltI : (j : Int) < n := by omega
      have hjl : j < l.length := by rw [← HN.out]; exact hlt
      obtain ⟨g, o, rfl, _, hg, hcell⟩ := (HX.out.only HO.out (by simp)).at_.2.2.2 j _ (get_txt hjl)
      have hpz : (l.getD j ByteArray.empty).size ≤ maxLen := HSZ.out _ (by rw [List.getD_eq_getElem?_getD, List.getElem?_eq_getElem hjl]; exact List.getElem_mem hjl)
      generalize hp : l.getD j ByteArray.empty = p at *
      have hei := empty_is p
      rcases Bool.eq_false_or_eq_true (decide (p ≠ ByteArray.empty)) with he | he
      · have hem : p.toList.isEmpty = false := by rw [hei]; exact decide_eq_false (of_decide_eq_true he)
        have HZ := hide (show ∀ i, i < j + 1 → (fun p => decide (p ≠ ByteArray.empty)) (l.getD i ByteArray.empty) = true from fun i hi => (Nat.lt_or_eq_of_le (Nat.le_of_lt_succ hi)).elim (HA.out i) (fun h => by rw [h, hp]; exact he))
        clear hp he hpz hjl hei
        go_wp2_with fail
        go_roundw
        case rel => exact ⟨j + 1, by omega, by go_num, HZ, HO⟩
        case measure => simp [intOf]; omega
      · have hem : p.toList.isEmpty = true := by rw [hei]; exact decide_eq_true (Decidable.not_not.1 (of_decide_eq_false he))
        have HR := hide (show madeB l = false from all_no hjl (by rw [hp]; exact he))
        clear hp he hpz hjl hei
        go_wp2_with fail
        go_ret
        exact retb HR.out HO.out
    · have hge : ¬ (j : Int) < n := by omega
      have HR := hide (show madeB l = true from all_yes (fun i hi => HA.out i (by have := HN.out; omega)))
      go_wp2_with fail
      go_ret
      exact retb HR.out HO.out
theorem terms_new1 (w : World) (G : Nat) (hG : G = w.heap.size) (x0 : ByteArray) (h0 : x0.size ≤ maxLen) : Calls Tryz.prog 88 #[.slice (some ⟨G, 0, none⟩) 1 1] (w.alloc (.cells #[.string x0] 9)) (RetB (termsB [x0]) w) := by
  subst hG
  exact (Nterms_any (w.alloc (.cells #[.string x0] 9)) _ [x0] (rd_new w 9 [] (strs [x0]) (by simp) (by unfold maxLen; show 1 ≤ _; omega)) (by intro p hp; simp at hp; rcases hp with rfl <;> assumption)).mono fun e w' h => ⟨h.1, ((Only.refl [] w).alloc _).trans h.2⟩
theorem terms_new2 (w : World) (G : Nat) (hG : G = w.heap.size) (x0 x1 : ByteArray) (h0 : x0.size ≤ maxLen) (h1 : x1.size ≤ maxLen) : Calls Tryz.prog 88 #[.slice (some ⟨G, 0, none⟩) 2 2] (w.alloc (.cells #[.string x0, .string x1] 9)) (RetB (termsB [x0, x1]) w) := by
  subst hG
  exact (Nterms_any (w.alloc (.cells #[.string x0, .string x1] 9)) _ [x0, x1] (rd_new w 9 [] (strs [x0, x1]) (by simp) (by unfold maxLen; show 2 ≤ _; omega)) (by intro p hp; simp at hp; rcases hp with rfl | rfl <;> assumption)).mono fun e w' h => ⟨h.1, ((Only.refl [] w).alloc _).trans h.2⟩
theorem terms_new5 (w : World) (G : Nat) (hG : G = w.heap.size) (x0 x1 x2 x3 x4 : ByteArray) (h0 : x0.size ≤ maxLen) (h1 : x1.size ≤ maxLen) (h2 : x2.size ≤ maxLen) (h3 : x3.size ≤ maxLen) (h4 : x4.size ≤ maxLen) : Calls Tryz.prog 88 #[.slice (some ⟨G, 0, none⟩) 5 5] (w.alloc (.cells #[.string x0, .string x1, .string x2, .string x3, .string x4] 9)) (RetB (termsB [x0, x1, x2, x3, x4]) w) := by
  subst hG
  exact (Nterms_any (w.alloc (.cells #[.string x0, .string x1, .string x2, .string x3, .string x4] 9)) _ [x0, x1, x2, x3, x4] (rd_new w 9 [] (strs [x0, x1, x2, x3, x4]) (by simp) (by unfold maxLen; show 5 ≤ _; omega)) (by intro p hp; simp at hp; rcases hp with rfl | rfl | rfl | rfl | rfl <;> assumption)).mono fun e w' h => ⟨h.1, ((Only.refl [] w).alloc _).trans h.2⟩
theorem pubs_new1 (w : World) (G : Nat) (hG : G = w.heap.size) (x0 : ByteArray) (h0 : x0.size ≤ maxLen) : Calls Tryz.prog 89 #[.slice (some ⟨G, 0, none⟩) 1 1] (w.alloc (.cells #[.string x0] 9)) (RetB (pubsB [x0]) w) := by
  subst hG
  exact (Npubs_any (w.alloc (.cells #[.string x0] 9)) _ [x0] (rd_new w 9 [] (strs [x0]) (by simp) (by unfold maxLen; show 1 ≤ _; omega)) (by intro p hp; simp at hp; rcases hp with rfl <;> assumption)).mono fun e w' h => ⟨h.1, ((Only.refl [] w).alloc _).trans h.2⟩
theorem pubs_new2 (w : World) (G : Nat) (hG : G = w.heap.size) (x0 x1 : ByteArray) (h0 : x0.size ≤ maxLen) (h1 : x1.size ≤ maxLen) : Calls Tryz.prog 89 #[.slice (some ⟨G, 0, none⟩) 2 2] (w.alloc (.cells #[.string x0, .string x1] 9)) (RetB (pubsB [x0, x1]) w) := by
  subst hG
  exact (Npubs_any (w.alloc (.cells #[.string x0, .string x1] 9)) _ [x0, x1] (rd_new w 9 [] (strs [x0, x1]) (by simp) (by unfold maxLen; show 2 ≤ _; omega)) (by intro p hp; simp at hp; rcases hp with rfl | rfl <;> assumption)).mono fun e w' h => ⟨h.1, ((Only.refl [] w).alloc _).trans h.2⟩
theorem made_new1 (w : World) (G : Nat) (hG : G = w.heap.size) (x0 : ByteArray) (h0 : x0.size ≤ maxLen) : Calls Tryz.prog 96 #[.slice (some ⟨G, 0, none⟩) 1 1] (w.alloc (.cells #[.string x0] 9)) (RetB (madeB [x0]) w) := by
  subst hG
  exact (Nmade_any (w.alloc (.cells #[.string x0] 9)) _ [x0] (rd_new w 9 [] (strs [x0]) (by simp) (by unfold maxLen; show 1 ≤ _; omega)) (by intro p hp; simp at hp; rcases hp with rfl <;> assumption)).mono fun e w' h => ⟨h.1, ((Only.refl [] w).alloc _).trans h.2⟩
theorem made_new2 (w : World) (G : Nat) (hG : G = w.heap.size) (x0 x1 : ByteArray) (h0 : x0.size ≤ maxLen) (h1 : x1.size ≤ maxLen) : Calls Tryz.prog 96 #[.slice (some ⟨G, 0, none⟩) 2 2] (w.alloc (.cells #[.string x0, .string x1] 9)) (RetB (madeB [x0, x1]) w) := by
  subst hG
  exact (Nmade_any (w.alloc (.cells #[.string x0, .string x1] 9)) _ [x0, x1] (rd_new w 9 [] (strs [x0, x1]) (by simp) (by unfold maxLen; show 2 ≤ _; omega)) (by intro p hp; simp at hp; rcases hp with rfl | rfl <;> assumption)).mono fun e w' h => ⟨h.1, ((Only.refl [] w).alloc _).trans h.2⟩
theorem made_new3 (w : World) (G : Nat) (hG : G = w.heap.size) (x0 x1 x2 : ByteArray) (h0 : x0.size ≤ maxLen) (h1 : x1.size ≤ maxLen) (h2 : x2.size ≤ maxLen) : Calls Tryz.prog 96 #[.slice (some ⟨G, 0, none⟩) 3 3] (w.alloc (.cells #[.string x0, .string x1, .string x2] 9)) (RetB (madeB [x0, x1, x2]) w) := by
  subst hG
  exact (Nmade_any (w.alloc (.cells #[.string x0, .string x1, .string x2] 9)) _ [x0, x1, x2] (rd_new w 9 [] (strs [x0, x1, x2]) (by simp) (by unfold maxLen; show 3 ≤ _; omega)) (by intro p hp; simp at hp; rcases hp with rfl | rfl | rfl <;> assumption)).mono fun e w' h => ⟨h.1, ((Only.refl [] w).alloc _).trans h.2⟩
theorem made_new4 (w : World) (G : Nat) (hG : G = w.heap.size) (x0 x1 x2 x3 : ByteArray) (h0 : x0.size ≤ maxLen) (h1 : x1.size ≤ maxLen) (h2 : x2.size ≤ maxLen) (h3 : x3.size ≤ maxLen) : Calls Tryz.prog 96 #[.slice (some ⟨G, 0, none⟩) 4 4] (w.alloc (.cells #[.string x0, .string x1, .string x2, .string x3] 9)) (RetB (madeB [x0, x1, x2, x3]) w) := by
  subst hG
  exact (Nmade_any (w.alloc (.cells #[.string x0, .string x1, .string x2, .string x3] 9)) _ [x0, x1, x2, x3] (rd_new w 9 [] (strs [x0, x1, x2, x3]) (by simp) (by unfold maxLen; show 4 ≤ _; omega)) (by intro p hp; simp at hp; rcases hp with rfl | rfl | rfl | rfl <;> assumption)).mono fun e w' h => ⟨h.1, ((Only.refl [] w).alloc _).trans h.2⟩
theorem made_new5 (w : World) (G : Nat) (hG : G = w.heap.size) (x0 x1 x2 x3 x4 : ByteArray) (h0 : x0.size ≤ maxLen) (h1 : x1.size ≤ maxLen) (h2 : x2.size ≤ maxLen) (h3 : x3.size ≤ maxLen) (h4 : x4.size ≤ maxLen) : Calls Tryz.prog 96 #[.slice (some ⟨G, 0, none⟩) 5 5] (w.alloc (.cells #[.string x0, .string x1, .string x2, .string x3, .string x4] 9)) (RetB (madeB [x0, x1, x2, x3, x4]) w) := by
  subst hG
  exact (Nmade_any (w.alloc (.cells #[.string x0, .string x1, .string x2, .string x3, .string x4] 9)) _ [x0, x1, x2, x3, x4] (rd_new w 9 [] (strs [x0, x1, x2, x3, x4]) (by simp) (by unfold maxLen; show 5 ≤ _; omega)) (by intro p hp; simp at hp; rcases hp with rfl | rfl | rfl | rfl | rfl <;> assumption)).mono fun e w' h => ⟨h.1, ((Only.refl [] w).alloc _).trans h.2⟩
noncomputable def pubT (x : ByteArray) : ByteArray := makeV 5 0 [] [x]
noncomputable def hashT (x y : ByteArray) : ByteArray := makeV 7 0 [] [x, y]
noncomputable def kdfT (n : Nat) (x y : ByteArray) : ByteArray := makeV 8 n [] [x, y]
noncomputable def sealN (x y z : ByteArray) : ByteArray := makeV 10 0 [] [x, y, z]
theorem pubT_size (x : ByteArray) : (pubT x).size ≤ maxLen := make_size' _ _ _ _ (by omega)
theorem hashT_size (x y : ByteArray) : (hashT x y).size ≤ maxLen := make_size' _ _ _ _ (by omega)
theorem kdfT_size (n : Nat) (hn : n < 18446744073709551616) (x y : ByteArray) : (kdfT n x y).size ≤ maxLen := make_size' _ _ _ _ hn
theorem sealN_size (x y z : ByteArray) : (sealN x y z).size ≤ maxLen := make_size' _ _ _ _ (by omega)
theorem agreeT_size (x y : ByteArray) : (agreeT x y).size ≤ maxLen := by
  unfold agreeT
  cases parseV y with
  | none => exact Nat.zero_le _
  | some nd =>
    simp only
    split
    · exact make_size' _ _ _ _ (by omega)
    · exact Nat.zero_le _
set_option maxRecDepth 100000 in
set_option maxHeartbeats 12800000 in
theorem public_any (w : World) (x : ByteArray) (hx : x.size ≤ maxLen) (htab : Tab w) : Calls Tryz.prog 90 #[.string x] w (MakePost (pubT x) w) := by
  have HT := hide htab
  clear htab
  go_enter Tryz.func90, Tryz.ntmps90
  go_wp2_with (go_at_call 66; refine (make_new1 _ HT.out _ rfl 5 (by decide) 0 (by omega) x hx).mono ?_; rintro e w2 ⟨rfl, ho⟩; have HO := hide ho; clear ho)
  go_ret
  exact makepost rfl HO.out
set_option maxRecDepth 100000 in
set_option maxHeartbeats 12800000 in
theorem kdf_any (w : World) (n : Nat) (hn : n < 18446744073709551616) (x y : ByteArray) (hx : x.size ≤ maxLen) (hy : y.size ≤ maxLen) (htab : Tab w) : Calls Tryz.prog 105 #[.int .u64 n, .string x, .string y] w (MakePost (kdfT n x y) w) := by
  have HT := hide htab
  clear htab
  have HN := hide hn
  clear hn
  go_enter Tryz.func105, Tryz.ntmps105
  go_wp2_with (go_at_call 66; refine (make_new2 _ HT.out _ rfl 8 (by decide) n HN.out x y hx hy).mono ?_; rintro e w2 ⟨rfl, ho⟩; have HO := hide ho; clear ho)
  go_ret
  exact makepost rfl HO.out
theorem kdf1_any (w : World) (x y : ByteArray) (hx : x.size ≤ maxLen) (hy : y.size ≤ maxLen) (htab : Tab w) : Calls Tryz.prog 105 #[.int .u64 1, .string x, .string y] w (MakePost (kdfT 1 x y) w) := kdf_any w 1 (by omega) x y hx hy htab
theorem kdf2_any (w : World) (x y : ByteArray) (hx : x.size ≤ maxLen) (hy : y.size ≤ maxLen) (htab : Tab w) : Calls Tryz.prog 105 #[.int .u64 2, .string x, .string y] w (MakePost (kdfT 2 x y) w) := kdf_any w 2 (by omega) x y hx hy htab
theorem kdf3_any (w : World) (x y : ByteArray) (hx : x.size ≤ maxLen) (hy : y.size ≤ maxLen) (htab : Tab w) : Calls Tryz.prog 105 #[.int .u64 3, .string x, .string y] w (MakePost (kdfT 3 x y) w) := kdf_any w 3 (by omega) x y hx hy htab
set_option maxRecDepth 100000 in
set_option maxHeartbeats 12800000 in
theorem nseal_any (w : World) (x y z : ByteArray) (hx : x.size ≤ maxLen) (hy : y.size ≤ maxLen) (hz : z.size ≤ maxLen) (htab : Tab w) : Calls Tryz.prog 94 #[.string x, .string y, .string z] w (MakePost (sealN x y z) w) := by
  have HT := hide htab
  clear htab
  go_enter Tryz.func94, Tryz.ntmps94
  go_wp2_with (go_at_call 66; refine (make_new3 _ HT.out _ rfl 10 (by decide) 0 (by omega) x y z hx hy hz).mono ?_; rintro e w2 ⟨rfl, ho⟩; have HO := hide ho; clear ho)
  go_ret
  exact makepost rfl HO.out
set_option maxRecDepth 100000 in
set_option maxHeartbeats 12800000 in
theorem sum_new2 (w : World) (htab : Tab w) (G : Nat) (hG : G = w.heap.size) (x y : ByteArray) (hx : x.size ≤ maxLen) (hy : y.size ≤ maxLen) : Calls Tryz.prog 121 #[.slice (some ⟨G, 0, none⟩) 2 2] (w.alloc (.cells #[.string x, .string y] 9)) (MakePost (hashT x y) w) := by
  have HM := hide (make_new2 w htab G hG 7 (by decide) 0 (by omega) x y hx hy)
  unfold MakePost at HM
  clear htab hG hx hy
  generalize (w.alloc (.cells #[.string x, .string y] 9)) = w0 at *
  go_enter Tryz.func121, Tryz.ntmps121
  go_wp2_with (go_at_call 66; refine HM.out.mono ?_; rintro e w2 ⟨rfl, ho⟩; have HO := hide ho; clear ho)
  go_ret
  exact makepost rfl HO.out
theorem nopen_any (w : World) (t key v : ByteArray) (hs : t.size ≤ maxLen) : Calls Tryz.prog 100 #[.string t, .string key, .string v] w fun e w' => e = .returned (.tuple #[.string (openT t key 0 v).1, .bool ((openT t key 0 v).2 == 0)]) ∧ Only [] w w' := by
  have HOP := hide (fun W => Open_any W t key v 0 hs)
  unfold OpenPost at HOP
  obtain ⟨⟨ot, oc⟩, hoc⟩ : ∃ q, openT t key 0 v = q := ⟨_, rfl⟩
  rw [hoc] at HOP ⊢
  simp only at HOP ⊢
  clear hoc
  go_enter Tryz.func100, Tryz.ntmps100
  go_wp2_with (go_at_call 63; refine (HOP.out _).mono ?_; rintro e w2 ⟨rfl, ho⟩; have HO := hide ho; clear ho)
  go_ret2
  exact ⟨rfl, HO.out⟩
end
section
open Go.RowKit Go.Deep

theorem first_size : (⟨#[104, 40, 120, 55, 51, 54, 101, 54, 57, 54, 51, 54, 98, 54, 53, 55, 52, 41]⟩ : ByteArray).size ≤ maxLen := by unfold maxLen; show 18 ≤ _; omega
theorem zero_size : (⟨#[48]⟩ : ByteArray).size ≤ maxLen := by unfold maxLen; show 1 ≤ _; omega
noncomputable def begC (eph : ByteArray) : ByteArray := kdfT 1 ⟨#[104, 40, 120, 55, 51, 54, 101, 54, 57, 54, 51, 54, 98, 54, 53, 55, 52, 41]⟩ eph
noncomputable def begH (p eph : ByteArray) : ByteArray := hashT (hashT ⟨#[104, 40, 120, 55, 51, 54, 101, 54, 57, 54, 51, 54, 98, 54, 53, 55, 52, 41]⟩ p) eph
def StatePost (c h : ByteArray) (w : World) (e : Ending) (w' : World) : Prop := e = .returned (.agg #[.string c, .string h]) ∧ Only [] w w'
def StIs (w : World) (g : Nat) (c h : ByteArray) : Prop := Blk w g 128 #[.string c, .string h]
set_option maxRecDepth 100000 in
set_option maxHeartbeats 12800000 in
theorem begin_any (w : World) (p eph : ByteArray) (hp : p.size ≤ maxLen) (he : eph.size ≤ maxLen) (htab : Tab w) : Calls Tryz.prog 91 #[.string p, .string eph] w (StatePost (begC eph) (begH p eph) w) := by
  have HB := hide (Blk.new w 128 #[.string ⟨#[]⟩, .string ⟨#[]⟩])
  have HO := hide (((Only.refl [w.heap.size] w).alloc (.cells #[.string ⟨#[]⟩, .string ⟨#[]⟩] 128)))
  have HT := hide (htab.only HO.out (by simp))
  replace HO := hide (((Only.refl [] w).alloc (.cells #[.string ⟨#[]⟩, .string ⟨#[]⟩] 128)))
  have HP := hide hp
  have HE := hide he
  clear htab hp he
  go_enter Tryz.func91, Tryz.ntmps91
  go_upto_region 1 with fail
  generalize (w.alloc (.cells #[.string ⟨#[]⟩, .string ⟨#[]⟩] 128)) = v0 at *
  have b0 := HB.out.cell 0; have b1 := HB.out.cell 1; simp at b0 b1; have bf := HB.out.frozen
  go_wp2_with (first
    | (go_at_call 105; (with_reducible refine (kdf1_any _ ⟨#[104, 40, 120, 55, 51, 54, 101, 54, 57, 54, 51, 54, 98, 54, 53, 55, 52, 41]⟩ eph first_size HE.out HT.out).mono ?_); rintro e w1 ⟨rfl, ho⟩; replace HT := hide (HT.out.only ho (by simp)); replace HO := hide (HO.out.trans ho); replace HB := hide (HB.out.only ho (by simp)); (first | (clear b0 b1 bf) | skip); have b0 := HB.out.cell 0; have b1 := HB.out.cell 1; simp at b0 b1; have bf := HB.out.frozen; clear ho)
    | (go_at_call 121; (with_reducible refine (sum_new2 _ HT.out _ rfl ⟨#[104, 40, 120, 55, 51, 54, 101, 54, 57, 54, 51, 54, 98, 54, 53, 55, 52, 41]⟩ p first_size HP.out).mono ?_); rintro e w2 ⟨rfl, ho⟩; replace HT := hide (HT.out.only ho (by simp)); replace HO := hide (HO.out.trans ho); replace HB := hide (HB.out.only ho (by simp)); (first | (clear b0 b1 bf) | skip); have b0 := HB.out.cell 0; have b1 := HB.out.cell 1; simp at b0 b1; have bf := HB.out.frozen; clear ho)
    | (go_at_call 121; (with_reducible refine (sum_new2 _ HT.out _ rfl (hashT ⟨#[104, 40, 120, 55, 51, 54, 101, 54, 57, 54, 51, 54, 98, 54, 53, 55, 52, 41]⟩ p) eph (hashT_size _ _) HE.out).mono ?_); rintro e w3 ⟨rfl, ho⟩; replace HT := hide (HT.out.only ho (by simp)); replace HO := hide (HO.out.trans ho); replace HB := hide (HB.out.only ho (by simp)); (first | (clear b0 b1 bf) | skip); have b0 := HB.out.cell 0; have b1 := HB.out.cell 1; simp at b0 b1; have bf := HB.out.frozen; clear ho))
  refine bodyPost_ret (results_cell_row rfl _ _ w.heap.size 128 _ (0, 0) _ rfl ((HB.out.set_ 0 _).set_ 1 _) Tryz.underlying128 rfl (by kernel_rfl)) rfl ?_
  exact ⟨rfl, (HO.out.setCell (.inr (Nat.le_refl _)) _).setCell (.inr (Nat.le_refl _)) _⟩
set_option maxRecDepth 100000 in
set_option maxHeartbeats 12800000 in
theorem mix_any (w : World) (g : Nat) (c h u : ByteArray) (hb : StIs w g c h) (hc : c.size ≤ maxLen) (hu : u.size ≤ maxLen) (htab : Tab w) : Calls Tryz.prog 92 #[.pointer (some ⟨g, 0, none⟩), .string u] w fun e w' => e = .returned (.string (kdfT 2 c u)) ∧ StIs w' g (kdfT 1 c u) h ∧ Only [g] w w' := by
  have HB := hide (show Blk w g 128 #[.string c, .string h] from hb)
  have HO := hide (Only.refl [] w)
  have HT := hide htab
  have HC := hide hc
  have HU := hide hu
  clear htab hc hu hb
  have b0 := HB.out.cell 0; have b1 := HB.out.cell 1; simp at b0 b1; have bf := HB.out.frozen
  go_enter Tryz.func92, Tryz.ntmps92
  go_wp2_with (first
    | (go_at_call 105; (with_reducible refine (kdf2_any _ c u HC.out HU.out HT.out).mono ?_); rintro e w1 ⟨rfl, ho⟩; replace HT := hide (HT.out.only ho (by simp)); replace HO := hide (HO.out.trans ho); replace HB := hide (HB.out.only ho (by simp)); (first | (clear b0 b1 bf) | skip); have b0 := HB.out.cell 0; have b1 := HB.out.cell 1; simp at b0 b1; have bf := HB.out.frozen; clear ho)
    | (go_at_call 105; (with_reducible refine (kdf1_any _ c u HC.out HU.out HT.out).mono ?_); rintro e w2 ⟨rfl, ho⟩; replace HT := hide (HT.out.only ho (by simp)); replace HO := hide (HO.out.trans ho); replace HB := hide (HB.out.only ho (by simp)); (first | (clear b0 b1 bf) | skip); have b0 := HB.out.cell 0; have b1 := HB.out.cell 1; simp at b0 b1; have bf := HB.out.frozen; clear ho))
  go_ret
  exact ⟨rfl, HB.out.set_ 0 _, ((HO.out.mono (S' := [g]) (by simp)).setCell (.inl (by simp)) _)⟩
set_option maxRecDepth 100000 in
set_option maxHeartbeats 12800000 in
theorem add_any (w : World) (g : Nat) (c h u : ByteArray) (hb : StIs w g c h) (hh : h.size ≤ maxLen) (hu : u.size ≤ maxLen) (htab : Tab w) : Calls Tryz.prog 95 #[.pointer (some ⟨g, 0, none⟩), .string u] w fun e w' => e = .returned (.tuple #[]) ∧ StIs w' g c (hashT h u) ∧ Only [g] w w' := by
  have HB := hide (show Blk w g 128 #[.string c, .string h] from hb)
  have HO := hide (Only.refl [] w)
  have HT := hide htab
  have HC := hide hh
  have HU := hide hu
  clear htab hh hu hb
  have b0 := HB.out.cell 0; have b1 := HB.out.cell 1; simp at b0 b1; have bf := HB.out.frozen
  go_enter Tryz.func95, Tryz.ntmps95
  go_wp2_with (first
    | (go_at_call 121; (with_reducible refine (sum_new2 _ HT.out _ rfl h u HC.out HU.out).mono ?_); rintro e w1 ⟨rfl, ho⟩; replace HT := hide (HT.out.only ho (by simp)); replace HO := hide (HO.out.trans ho); replace HB := hide (HB.out.only ho (by simp)); (first | (clear b0 b1 bf) | skip); have b0 := HB.out.cell 0; have b1 := HB.out.cell 1; simp at b0 b1; have bf := HB.out.frozen; clear ho))
  refine bodyPost_end (results_none rfl _ _ _) rfl ?_
  exact ⟨rfl, HB.out.set_ 1 _, ((HO.out.mono (S' := [g]) (by simp)).setCell (.inl (by simp)) _)⟩
noncomputable def endC (c eph u v : ByteArray) : ByteArray := kdfT 1 (kdfT 1 (kdfT 1 c eph) u) v
noncomputable def endA (c eph u v q : ByteArray) : ByteArray := kdfT 1 (endC c eph u v) q
noncomputable def endK (c eph u v q : ByteArray) : ByteArray := kdfT 3 (endC c eph u v) q
noncomputable def endW (c h eph u v q : ByteArray) : ByteArray := hashT (hashT h eph) (kdfT 2 (endC c eph u v) q)
def LastPost (c k x : ByteArray) (w : World) (e : Ending) (w' : World) : Prop := e = .returned (.agg #[.string c, .string k, .string x]) ∧ Only [] w w'
set_option maxRecDepth 100000 in
set_option maxHeartbeats 12800000 in
theorem end_in (w : World) (c h eph u v q k1 k2 k3 h1 l1 l3 l2 wi : ByteArray) (hc : c.size ≤ maxLen) (hh : h.size ≤ maxLen) (he : eph.size ≤ maxLen) (hu : u.size ≤ maxLen) (hv : v.size ≤ maxLen) (hq : q.size ≤ maxLen) (htab : Tab w)
    (e1 : kdfT 1 c eph = k1) (e2 : kdfT 1 k1 u = k2) (e3 : kdfT 1 k2 v = k3) (e4 : hashT h eph = h1) (e5 : kdfT 1 k3 q = l1) (e6 : kdfT 3 k3 q = l3) (e7 : kdfT 2 k3 q = l2) (e8 : hashT h1 l2 = wi) :
    Calls Tryz.prog 104 #[.agg #[.string c, .string h], .string eph, .string u, .string v, .string q] w (LastPost l1 l3 wi w) := by
  have s1 : k1.size ≤ maxLen := e1 ▸ kdfT_size 1 (by omega) _ _
  have s2 : k2.size ≤ maxLen := e2 ▸ kdfT_size 1 (by omega) _ _
  have s3 : k3.size ≤ maxLen := e3 ▸ kdfT_size 1 (by omega) _ _
  have s4 : h1.size ≤ maxLen := e4 ▸ hashT_size _ _
  have s7 : l2.size ≤ maxLen := e7 ▸ kdfT_size 2 (by omega) _ _
  have K1 := hide (fun W ht => kdf1_any W c eph hc he ht)
  have K2 := hide (fun W ht => kdf1_any W k1 u s1 hu ht)
  have K3 := hide (fun W ht => kdf1_any W k2 v s2 hv ht)
  have K4 := hide (fun W ht G hG => sum_new2 W ht G hG h eph hh he)
  have K5 := hide (fun W ht => kdf1_any W k3 q s3 hq ht)
  have K6 := hide (fun W ht => kdf3_any W k3 q s3 hq ht)
  have K7 := hide (fun W ht => kdf2_any W k3 q s3 hq ht)
  have K8 := hide (fun W ht G hG => sum_new2 W ht G hG h1 l2 s4 s7)
  rw [e1] at K1; rw [e2] at K2; rw [e3] at K3; rw [e4] at K4; rw [e5] at K5; rw [e6] at K6; rw [e7] at K7; rw [e8] at K8
  unfold MakePost at K1 K2 K3 K4 K5 K6 K7 K8
  have HB := hide ((Blk.new w 128 #[.string c, .string h]).alloc (.cells #[.string ⟨#[]⟩, .string ⟨#[]⟩, .string ⟨#[]⟩] 142))
  have HR := hide (Blk.new (w.alloc (.cells #[.string c, .string h] 128)) 142 #[.string ⟨#[]⟩, .string ⟨#[]⟩, .string ⟨#[]⟩])
  rw [World.size_alloc] at HR
  have HO := hide (((Only.refl [] w).alloc (.cells #[.string c, .string h] 128)).alloc (.cells #[.string ⟨#[]⟩, .string ⟨#[]⟩, .string ⟨#[]⟩] 142))
  have HT := hide (htab.only HO.out (by simp))
  clear htab hc hh he hu hv hq e1 e2 e3 e4 e5 e6 e7 e8 s1 s2 s3 s4 s7
  go_enter Tryz.func104, Tryz.ntmps104
  go_upto_region 1 with fail
  generalize ((w.alloc (.cells #[.string c, .string h] 128)).alloc (.cells #[.string ⟨#[]⟩, .string ⟨#[]⟩, .string ⟨#[]⟩] 142)) = v0 at *
  have b0 := HB.out.cell 0; have b1 := HB.out.cell 1; simp at b0 b1; have bf := HB.out.frozen; have r0 := HR.out.cell 0; have r1 := HR.out.cell 1; have r2 := HR.out.cell 2; simp at r0 r1 r2; have rf := HR.out.frozen
  go_wp2_with (first
    | (go_at_call 105; (with_reducible refine (K1.out _ HT.out).mono ?_); rintro e x1 ⟨rfl, ho⟩; replace HT := hide (HT.out.only ho (by simp)); replace HO := hide (HO.out.trans ho); replace HB := hide (HB.out.only ho (by simp)); replace HR := hide (HR.out.only ho (by simp)); (first | (clear b0 b1 bf r0 r1 r2 rf) | skip); have b0 := HB.out.cell 0; have b1 := HB.out.cell 1; simp at b0 b1; have bf := HB.out.frozen; have r0 := HR.out.cell 0; have r1 := HR.out.cell 1; have r2 := HR.out.cell 2; simp at r0 r1 r2; have rf := HR.out.frozen; clear ho)
    | (go_at_call 105; (with_reducible refine (K2.out _ HT.out).mono ?_); rintro e x2 ⟨rfl, ho⟩; replace HT := hide (HT.out.only ho (by simp)); replace HO := hide (HO.out.trans ho); replace HB := hide (HB.out.only ho (by simp)); replace HR := hide (HR.out.only ho (by simp)); (first | (clear b0 b1 bf r0 r1 r2 rf) | skip); have b0 := HB.out.cell 0; have b1 := HB.out.cell 1; simp at b0 b1; have bf := HB.out.frozen; have r0 := HR.out.cell 0; have r1 := HR.out.cell 1; have r2 := HR.out.cell 2; simp at r0 r1 r2; have rf := HR.out.frozen; clear ho)
    | (go_at_call 105; (with_reducible refine (K3.out _ HT.out).mono ?_); rintro e x3 ⟨rfl, ho⟩; replace HT := hide (HT.out.only ho (by simp)); replace HO := hide (HO.out.trans ho); replace HB := hide (HB.out.only ho (by simp)); replace HR := hide (HR.out.only ho (by simp)); (first | (clear b0 b1 bf r0 r1 r2 rf) | skip); have b0 := HB.out.cell 0; have b1 := HB.out.cell 1; simp at b0 b1; have bf := HB.out.frozen; have r0 := HR.out.cell 0; have r1 := HR.out.cell 1; have r2 := HR.out.cell 2; simp at r0 r1 r2; have rf := HR.out.frozen; clear ho)
    | (go_at_call 105; (with_reducible refine (K5.out _ HT.out).mono ?_); rintro e x5 ⟨rfl, ho⟩; replace HT := hide (HT.out.only ho (by simp)); replace HO := hide (HO.out.trans ho); replace HB := hide (HB.out.only ho (by simp)); replace HR := hide (HR.out.only ho (by simp)); (first | (clear b0 b1 bf r0 r1 r2 rf) | skip); have b0 := HB.out.cell 0; have b1 := HB.out.cell 1; simp at b0 b1; have bf := HB.out.frozen; have r0 := HR.out.cell 0; have r1 := HR.out.cell 1; have r2 := HR.out.cell 2; simp at r0 r1 r2; have rf := HR.out.frozen; clear ho)
    | (go_at_call 105; (with_reducible refine (K6.out _ HT.out).mono ?_); rintro e x6 ⟨rfl, ho⟩; replace HT := hide (HT.out.only ho (by simp)); replace HO := hide (HO.out.trans ho); replace HB := hide (HB.out.only ho (by simp)); replace HR := hide (HR.out.only ho (by simp)); (first | (clear b0 b1 bf r0 r1 r2 rf) | skip); have b0 := HB.out.cell 0; have b1 := HB.out.cell 1; simp at b0 b1; have bf := HB.out.frozen; have r0 := HR.out.cell 0; have r1 := HR.out.cell 1; have r2 := HR.out.cell 2; simp at r0 r1 r2; have rf := HR.out.frozen; clear ho)
    | (go_at_call 105; (with_reducible refine (K7.out _ HT.out).mono ?_); rintro e x7 ⟨rfl, ho⟩; replace HT := hide (HT.out.only ho (by simp)); replace HO := hide (HO.out.trans ho); replace HB := hide (HB.out.only ho (by simp)); replace HR := hide (HR.out.only ho (by simp)); (first | (clear b0 b1 bf r0 r1 r2 rf) | skip); have b0 := HB.out.cell 0; have b1 := HB.out.cell 1; simp at b0 b1; have bf := HB.out.frozen; have r0 := HR.out.cell 0; have r1 := HR.out.cell 1; have r2 := HR.out.cell 2; simp at r0 r1 r2; have rf := HR.out.frozen; clear ho)
    | (go_at_call 121; (with_reducible refine (K4.out _ HT.out _ rfl).mono ?_); rintro e x4 ⟨rfl, ho⟩; replace HT := hide (HT.out.only ho (by simp)); replace HO := hide (HO.out.trans ho); replace HB := hide (HB.out.only ho (by simp)); replace HR := hide (HR.out.only ho (by simp)); (first | (clear b0 b1 bf r0 r1 r2 rf) | skip); have b0 := HB.out.cell 0; have b1 := HB.out.cell 1; simp at b0 b1; have bf := HB.out.frozen; have r0 := HR.out.cell 0; have r1 := HR.out.cell 1; have r2 := HR.out.cell 2; simp at r0 r1 r2; have rf := HR.out.frozen; clear ho)
    | (go_at_call 121; (with_reducible refine (K8.out _ HT.out _ rfl).mono ?_); rintro e x8 ⟨rfl, ho⟩; replace HT := hide (HT.out.only ho (by simp)); replace HO := hide (HO.out.trans ho); replace HB := hide (HB.out.only ho (by simp)); replace HR := hide (HR.out.only ho (by simp)); (first | (clear b0 b1 bf r0 r1 r2 rf) | skip); have b0 := HB.out.cell 0; have b1 := HB.out.cell 1; simp at b0 b1; have bf := HB.out.frozen; have r0 := HR.out.cell 0; have r1 := HR.out.cell 1; have r2 := HR.out.cell 2; simp at r0 r1 r2; have rf := HR.out.frozen; clear ho))
  refine bodyPost_ret (results_cell_row rfl _ _ (w.heap.size + 1) 142 _ (0, 0) _ rfl (((HR.out.set_ 0 _).set_ 1 _).set_ 2 _) Tryz.underlying142 rfl (by kernel_rfl)) rfl ?_
  exact ⟨rfl, ((HO.out.setCell (.inr (Nat.le_succ _)) _).setCell (.inr (Nat.le_succ _)) _).setCell (.inr (Nat.le_succ _)) _⟩
theorem end_any (w : World) (c h eph u v q : ByteArray) (hc : c.size ≤ maxLen) (hh : h.size ≤ maxLen) (he : eph.size ≤ maxLen) (hu : u.size ≤ maxLen) (hv : v.size ≤ maxLen) (hq : q.size ≤ maxLen) (htab : Tab w) :
    Calls Tryz.prog 104 #[.agg #[.string c, .string h], .string eph, .string u, .string v, .string q] w (LastPost (endA c eph u v q) (endK c eph u v q) (endW c h eph u v q) w) :=
  end_in w c h eph u v q _ _ _ _ _ _ _ _ hc hh he hu hv hq htab rfl rfl rfl rfl rfl rfl rfl rfl
end
section
open Go.RowKit Go.Deep

theorem blk_there {w : World} {g : Nat} {t : TypeId} {cs : Array Value} (h : Blk w g t cs) (n : Nat) (hn : n = cs.size) : w.there g 0 n := by
  subst hn
  intro j hj
  rw [Nat.zero_add, h.cell]
  exact ⟨by simp [hj], h.frozen j⟩
theorem blk_stored {w : World} {g : Nat} {t : TypeId} {cs : Array Value} (h : Blk w g t cs) (l : List Value) (hl : l.length = cs.size) : Blk (w.setCells g 0 l) g t l.toArray := h.setCells_whole hl
theorem only_stored {S : List Nat} {a w : World} {g : Nat} (h : Only S a w) (hg : a.heap.size ≤ g) (l : List Value) : Only S a (w.setCells g 0 l) := Only.setCells (.inr hg) 0 l h
theorem blk_far {w : World} {g p : Nat} {t : TypeId} {cs : Array Value} (h : Blk w g t cs) (hp : p ≠ g) (l : List Value) : Blk (w.setCells p 0 l) g t cs := Blk.setCells_far hp 0 l h
end
end Go.Proofs.YtfipdjlalfpbnaaGreatDoor

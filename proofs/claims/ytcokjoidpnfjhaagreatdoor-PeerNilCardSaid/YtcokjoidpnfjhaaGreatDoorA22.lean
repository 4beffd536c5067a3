/-
  Walks and plain words (texts Py2, Tz, No0, No1). No condition beyond those that each theorem states.
-/
import Derived.Test.YtcokjoidpnfjhaaGreatDoorA21
namespace Go.Proofs.YtcokjoidpnfjhaaGreatDoor
section
open Go.RowKit Go.Deep

/-- By what a peer signs: its cookie, as long as it is young. -/
def byV (now cm : Int) (ck : ByteArray) : ByteArray := if now - cm < 120000 then ck else ByteArray.empty
set_option maxRecDepth 100000 in
set_option maxHeartbeats 12800000 in
theorem psign_any (w : World) (g : Nat) (p : Pr) (now : Int) (m : Mg) (k : Int) (m2 : Mg) (hP : Blk w g 110 (prC p)) (ht : Tab w) (h64 : wrap64 (now - p.cm) = now - p.cm)
    (hKS : ∀ W, Tab W → Calls Tryz.prog 132 #[.agg m.cells, .string p.pub, .string (byV now p.cm p.ck)] W (SignPost (k, m2) W)) :
    Calls Tryz.prog 59 #[.pointer (some ⟨g, 0, none⟩), .int .i64 now, .agg m.cells] w (CellsPost k m2.cells w) := by
  have HM := hide ((Blk.new w 29 m.cells).alloc (.cells #[.int .i64 0, .int .u32 0, .int .u32 0, .int .u64 0, .string ⟨#[]⟩, .string ⟨#[]⟩, .string ⟨#[]⟩, .string ⟨#[]⟩, .string ⟨#[]⟩, .string ⟨#[]⟩, .string ⟨#[]⟩, .string ⟨#[]⟩, .string ⟨#[]⟩] 29))
  have HR := hide (Blk.new (w.alloc (.cells m.cells 29)) 29 #[.int .i64 0, .int .u32 0, .int .u32 0, .int .u64 0, .string ⟨#[]⟩, .string ⟨#[]⟩, .string ⟨#[]⟩, .string ⟨#[]⟩, .string ⟨#[]⟩, .string ⟨#[]⟩, .string ⟨#[]⟩, .string ⟨#[]⟩, .string ⟨#[]⟩])
  rw [World.size_alloc] at HR
  have HO := hide (((Only.refl [] w).alloc (.cells m.cells 29)).alloc (.cells #[.int .i64 0, .int .u32 0, .int .u32 0, .int .u64 0, .string ⟨#[]⟩, .string ⟨#[]⟩, .string ⟨#[]⟩, .string ⟨#[]⟩, .string ⟨#[]⟩, .string ⟨#[]⟩, .string ⟨#[]⟩, .string ⟨#[]⟩, .string ⟨#[]⟩] 29))
  have HGL := hide hP.lt
  have HP := hide (hP.only HO.out (by simp))
  have HT := hide (ht.only HO.out (by simp))
  have HS := hide hKS
  obtain ⟨pub, shr, ep, rg, sl, sk, ck, cm, sp, sm, ow, ot, wa, wt⟩ := p
  obtain ⟨by_, hby⟩ : ∃ b, b = byV now cm ck := ⟨_, rfl⟩
  simp only at h64 HS
  rw [← hby] at HS
  have HBY := hide hby
  unfold SignPost at HS
  unfold prC at HP
  unfold Mg.cells at HM HO HP HT HR HS ⊢
  simp only at HP
  have p0 := HP.out.cell 0; have p6 := HP.out.cell 6; have p7 := HP.out.cell 7; simp at p0 p6 p7
  clear hP ht hKS hby
  go_enter Tryz.func59, Tryz.ntmps59
  go_upto_region 1 with fail
  generalize (w.alloc (.cells #[.int .i64 m.k, .int .u32 (m.s : Nat), .int .u32 (m.r : Nat), .int .u64 (m.c : Nat), .string m.x4, .string m.x5, .string m.x6, .string m.x7, .string m.x8, .string m.x9, .string m.x10, .string m.x11, .string m.x12] 29)).alloc (.cells #[.int .i64 0, .int .u32 0, .int .u32 0, .int .u64 0, .string ⟨#[]⟩, .string ⟨#[]⟩, .string ⟨#[]⟩, .string ⟨#[]⟩, .string ⟨#[]⟩, .string ⟨#[]⟩, .string ⟨#[]⟩, .string ⟨#[]⟩, .string ⟨#[]⟩] 29) = w1 at *
  cases hdb : decide (now - cm < 120000) with
  | false =>
    have e_ : by_ = ⟨#[]⟩ := by rw [HBY.out]; unfold byV; rw [if_neg (of_decide_eq_false hdb)]; rfl
    clear HBY
    subst e_
    go_upto_region 4 with fail
    replace HR := hide HR.out.drew
    replace HT := hide (HT.out.only (Only.refl [] w1).drew (by simp))
    clear p0 p6 p7
    refine wp_region_held_drew (S := fun W => Only [w.heap.size + 1] w1 W) (by kernel_rfl) (by exact (Only.refl [w.heap.size + 1] w1).drew) (fun hHeld => ?_); generalize w1.drew = wd4 at *
    refine tk 0 ?_ (hy := by (intro w hSw; (try dsimp only at hSw); have HMw := HM.out.only hSw (by simp); obtain ⟨m0, m1, m2, m3, m4, m5, m6, m7, m8, m9, m10, m11, m12⟩ := cells13 HMw; clear HMw; go_simp; try with_reducible rfl))
    refine tk 1 ?_; refine tk 2 ?_; refine tk 3 ?_
    refine tk 4 ?_ (hy := by (intro w hSw; (try dsimp only at hSw); have HPw := HP.out.only hSw (by have := HGL.out; simp; omega); have p0 := HPw.cell 0; simp at p0; clear HPw; go_simp; try with_reducible rfl)); refine tk 5 ?_
    refine wpAnyH_ready (rs := [6]) (by kernel_rfl) (by simp) ?_; refine (AllReadyH.cons rfl (fun K hK => ?_) AllReadyH.nil); go_simp
    (go_at_call 132; (with_reducible refine (HS.out _ HT.out).mono ?_); rintro e2 w6 ⟨rfl, ho⟩; replace HR := hide (HR.out.only ho (by simp)))
    refine hK.out _ _ (by first | exact hHeld.trans ho | exact hHeld.trans (ho.mono (by simp))) (fun hN => ?_); clear hK K ho hHeld; have hHeld := hN; clear hN; (try simp only [zsa, zsb, zsc, Act.put, zsd, zse, zsf])
    refine tk 7 ?_; refine tk 8 ?_; refine wpAnyH_ready (rs := [9]) (by kernel_rfl) (by simp) ?_; refine (AllReadyH.cons rfl (fun K hK => ?_) AllReadyH.nil); rw [if_pos (by rfl)]
    refine wp_store_mid _ _ _ rfl _ _ #[.int .i64 m2.k, .int .u32 (m2.s : Nat), .int .u32 (m2.r : Nat), .int .u64 (m2.c : Nat), .string m2.x4, .string m2.x5, .string m2.x6, .string m2.x7, .string m2.x8, .string m2.x9, .string m2.x10, .string m2.x11, .string m2.x12] rfl rfl (blk_there HR.out _ rfl) (by kernel_rfl) (by simp [Value.oneCell']) ?_
    replace HR := hide (show Blk (w6.setCells (w.heap.size + 1) 0 [.int .i64 m2.k, .int .u32 (m2.s : Nat), .int .u32 (m2.r : Nat), .int .u64 (m2.c : Nat), .string m2.x4, .string m2.x5, .string m2.x6, .string m2.x7, .string m2.x8, .string m2.x9, .string m2.x10, .string m2.x11, .string m2.x12]) _ _ #[.int .i64 m2.k, .int .u32 (m2.s : Nat), .int .u32 (m2.r : Nat), .int .u64 (m2.c : Nat), .string m2.x4, .string m2.x5, .string m2.x6, .string m2.x7, .string m2.x8, .string m2.x9, .string m2.x10, .string m2.x11, .string m2.x12] from blk_stored HR.out [.int .i64 m2.k, .int .u32 (m2.s : Nat), .int .u32 (m2.r : Nat), .int .u64 (m2.c : Nat), .string m2.x4, .string m2.x5, .string m2.x6, .string m2.x7, .string m2.x8, .string m2.x9, .string m2.x10, .string m2.x11, .string m2.x12] rfl)
    refine hK.out _ _ (by exact Only.setCells (.inl (by simp)) 0 [.int .i64 m2.k, .int .u32 (m2.s : Nat), .int .u32 (m2.r : Nat), .int .u64 (m2.c : Nat), .string m2.x4, .string m2.x5, .string m2.x6, .string m2.x7, .string m2.x8, .string m2.x9, .string m2.x10, .string m2.x11, .string m2.x12] hHeld) (fun hN => ?_)
    clear hK K hHeld; have hHeld := hN; clear hN; (try simp only [zsa, zsb, zsc, Act.put, zsd, zse, zsf]); refine tk 10 ?_; refine wpAnyH_done (by kernel_rfl) ?_ _
    (repeat go_step)
    refine bodyPost_ret (results_cell_two rfl _ _ (w.heap.size + 1) 29 _ (0, 0) _ rfl HR.out Tryz.underlying29 rfl (by kernel_rfl)) rfl ?_
    exact ⟨rfl, ((HO.out.mono (by simp)).trans hHeld).mono (by intro x hx; right; simp at hx; omega)⟩
  | true =>
    have e_ : by_ = ck := by rw [HBY.out]; unfold byV; rw [if_pos (of_decide_eq_true hdb)]
    clear HBY
    subst e_
    go_upto_region 4 with fail
    replace HR := hide HR.out.drew
    replace HT := hide (HT.out.only (Only.refl [] w1).drew (by simp))
    clear p0 p6 p7
    refine wp_region_held_drew (S := fun W => Only [w.heap.size + 1] w1 W) (by kernel_rfl) (by exact (Only.refl [w.heap.size + 1] w1).drew) (fun hHeld => ?_); generalize w1.drew = wd4 at *
    refine tk 0 ?_ (hy := by (intro w hSw; (try dsimp only at hSw); have HMw := HM.out.only hSw (by simp); obtain ⟨m0, m1, m2, m3, m4, m5, m6, m7, m8, m9, m10, m11, m12⟩ := cells13 HMw; clear HMw; go_simp; try with_reducible rfl))
    refine tk 1 ?_; refine tk 2 ?_; refine tk 3 ?_
    refine tk 4 ?_ (hy := by (intro w hSw; (try dsimp only at hSw); have HPw := HP.out.only hSw (by have := HGL.out; simp; omega); have p0 := HPw.cell 0; simp at p0; clear HPw; go_simp; try with_reducible rfl)); refine tk 5 ?_
    refine wpAnyH_ready (rs := [6]) (by kernel_rfl) (by simp) ?_; refine (AllReadyH.cons rfl (fun K hK => ?_) AllReadyH.nil); go_simp
    (go_at_call 132; (with_reducible refine (HS.out _ HT.out).mono ?_); rintro e2 w6 ⟨rfl, ho⟩; replace HR := hide (HR.out.only ho (by simp)))
    refine hK.out _ _ (by first | exact hHeld.trans ho | exact hHeld.trans (ho.mono (by simp))) (fun hN => ?_); clear hK K ho hHeld; have hHeld := hN; clear hN; (try simp only [zsa, zsb, zsc, Act.put, zsd, zse, zsf])
    refine tk 7 ?_; refine tk 8 ?_; refine wpAnyH_ready (rs := [9]) (by kernel_rfl) (by simp) ?_; refine (AllReadyH.cons rfl (fun K hK => ?_) AllReadyH.nil); rw [if_pos (by rfl)]
    refine wp_store_mid _ _ _ rfl _ _ #[.int .i64 m2.k, .int .u32 (m2.s : Nat), .int .u32 (m2.r : Nat), .int .u64 (m2.c : Nat), .string m2.x4, .string m2.x5, .string m2.x6, .string m2.x7, .string m2.x8, .string m2.x9, .string m2.x10, .string m2.x11, .string m2.x12] rfl rfl (blk_there HR.out _ rfl) (by kernel_rfl) (by simp [Value.oneCell']) ?_
    replace HR := hide (show Blk (w6.setCells (w.heap.size + 1) 0 [.int .i64 m2.k, .int .u32 (m2.s : Nat), .int .u32 (m2.r : Nat), .int .u64 (m2.c : Nat), .string m2.x4, .string m2.x5, .string m2.x6, .string m2.x7, .string m2.x8, .string m2.x9, .string m2.x10, .string m2.x11, .string m2.x12]) _ _ #[.int .i64 m2.k, .int .u32 (m2.s : Nat), .int .u32 (m2.r : Nat), .int .u64 (m2.c : Nat), .string m2.x4, .string m2.x5, .string m2.x6, .string m2.x7, .string m2.x8, .string m2.x9, .string m2.x10, .string m2.x11, .string m2.x12] from blk_stored HR.out [.int .i64 m2.k, .int .u32 (m2.s : Nat), .int .u32 (m2.r : Nat), .int .u64 (m2.c : Nat), .string m2.x4, .string m2.x5, .string m2.x6, .string m2.x7, .string m2.x8, .string m2.x9, .string m2.x10, .string m2.x11, .string m2.x12] rfl)
    refine hK.out _ _ (by exact Only.setCells (.inl (by simp)) 0 [.int .i64 m2.k, .int .u32 (m2.s : Nat), .int .u32 (m2.r : Nat), .int .u64 (m2.c : Nat), .string m2.x4, .string m2.x5, .string m2.x6, .string m2.x7, .string m2.x8, .string m2.x9, .string m2.x10, .string m2.x11, .string m2.x12] hHeld) (fun hN => ?_)
    clear hK K hHeld; have hHeld := hN; clear hN; (try simp only [zsa, zsb, zsc, Act.put, zsd, zse, zsf]); refine tk 10 ?_; refine wpAnyH_done (by kernel_rfl) ?_ _
    (repeat go_step)
    refine bodyPost_ret (results_cell_two rfl _ _ (w.heap.size + 1) 29 _ (0, 0) _ rfl HR.out Tryz.underlying29 rfl (by kernel_rfl)) rfl ?_
    exact ⟨rfl, ((HO.out.mono (by simp)).trans hHeld).mono (by intro x hx; right; simp at hx; omega)⟩
end
section
open Go.RowKit Go.Deep

theorem txt_le (k : Int) (n : Nat) (hn : n < 18446744073709551616) (b : List UInt8) (l : List ByteArray) (h5 : 5 ≤ k) : (txtL k n b l).length ≤ sumL l + 24 := by
  have h1 := join_le l
  have h2 := dec_len n hn
  unfold txtL
  rw [if_neg (by omega), if_neg (by omega), if_neg (by omega)]
  split
  · split <;> simp only [List.length_cons, List.length_append, List.length_nil] <;> omega
  · simp only [List.length_cons, List.length_append, List.length_nil]
    omega
theorem sort_sum (k : Int) (l : List ByteArray) (h : k = 6 → l.length = 2) : sumL (sortV k l) = sumL l := by
  by_cases h6 : k = 6
  · match l, h h6 with
    | [x, y], _ =>
      unfold sortV
      split
      · show y.size + 1 + (x.size + 1 + 0) = x.size + 1 + (y.size + 1 + 0)
        omega
      · rfl
  · rw [sort_not6 h6]
theorem made_of {k : Int} {n : Nat} (b : List UInt8) {l : List ByteArray} (h5 : 5 ≤ k) (h11 : k ≤ 11) (hn : n < 18446744073709551616) (h2 : numberedV k = true → allowedV k n = true) (h3 : fitsV k l.length = true)
    (h4 : ∀ p ∈ l, (parseV p).isSome = true) (hs : sumL l ≤ 65000) : makeV k n b l = bytesOf (txtL k n b (sortV k l)) := by
  refine make_is ⟨by omega, h11⟩ h2 h3 (fun j hj => ?_) ?_
  · have h := h4 (l.getD j ByteArray.empty) (by rw [List.getD_eq_getElem?_getD, List.getElem?_eq_getElem hj]; exact List.getElem_mem hj)
    obtain ⟨nd, h1⟩ := Option.isSome_iff_exists.1 h
    have h6 := kind_pos (k := nd.1) (n := nd.2.1) (b := nd.2.2.1) (l := nd.2.2.2) h1
    unfold kindT
    rw [h1]
    show nd.1 ≠ 0
    omega
  · have h6 := txt_le k n hn b (sortV k l) h5
    rw [sort_sum k l (fun h => by subst h; obtain ⟨p, q, rfl⟩ := fits_six h3; rfl)] at h6
    omega
/-- A term of at most so many bytes. -/
def Tn (N : Nat) (s : ByteArray) : Prop := (parseV s).isSome = true ∧ s.size ≤ N
theorem Tn.mono {M N : Nat} {s : ByteArray} (h : Tn M s) (hn : M ≤ N) : Tn N s := ⟨h.1, Nat.le_trans h.2 hn⟩
theorem Tn.ne {N : Nat} {s : ByteArray} (h : Tn N s) : s ≠ ByteArray.empty := by
  rintro rfl
  have h1 := h.1
  rw [show parseV ByteArray.empty = none from by kernel_rfl] at h1
  cases h1
theorem tn_make {k : Int} {n : Nat} {b : List UInt8} {l : List ByteArray} (h5 : 5 ≤ k) (h11 : k ≤ 11) (hn : n < 18446744073709551616) (h2 : numberedV k = true → allowedV k n = true) (h3 : fitsV k l.length = true)
    (h4 : ∀ p ∈ l, (parseV p).isSome = true) (N : Nat) (hs : sumL l + 24 ≤ N) (hN : N ≤ 65000) : Tn N (makeV k n b l) := by
  have he := made_of b h5 h11 hn h2 h3 h4 (by omega)
  have hne : makeV k n b l ≠ ByteArray.empty := by rw [he]; exact bytes_ne (txt_ne _ _ _ _)
  refine ⟨by rw [make_read hn hne]; rfl, ?_⟩
  rw [he, bytesOf_size]
  have h6 := txt_le k n hn b (sortV k l) h5
  rw [sort_sum k l (fun h => by subst h; obtain ⟨p, q, rfl⟩ := fits_six h3; rfl)] at h6
  omega
section
variable {a c d : Nat} {x y z : ByteArray}
theorem tn_pub (hx : Tn a x) (h : a ≤ 60000) : Tn (a + 25) (makeV 5 0 [] [x]) :=
  tn_make (by omega) (by omega) (by omega) (fun h => by cases h) (by show fitsV 5 1 = true; decide) (by intro p hp; simp at hp; subst hp; exact hx.1) _ (by have := hx.2; show x.size + 1 + 0 + 24 ≤ a + 25; omega) (by omega)
theorem tn_two (k : Int) (hk : k = 6 ∨ k = 7 ∨ k = 9) (hx : Tn a x) (hy : Tn c y) (h : a + c ≤ 60000) : Tn (a + c + 26) (makeV k 0 [] [x, y]) :=
  tn_make (by omega) (by omega) (by omega) (fun h => by rcases hk with rfl | rfl | rfl <;> cases h) (by rcases hk with rfl | rfl | rfl <;> (show fitsV _ 2 = true; decide)) (by intro p hp; simp at hp; rcases hp with rfl | rfl; exact hx.1; exact hy.1) _ (by have := hx.2; have := hy.2; show x.size + 1 + (y.size + 1 + 0) + 24 ≤ a + c + 26; omega) (by omega)
theorem tn_kdf (n : Nat) (hn : 1 ≤ n ∧ n ≤ 3) (hx : Tn a x) (hy : Tn c y) (h : a + c ≤ 60000) : Tn (a + c + 26) (makeV 8 n [] [x, y]) :=
  tn_make (by omega) (by omega) (by omega) (fun _ => by unfold allowedV; rw [if_neg (by decide), if_pos rfl]; exact decide_eq_true (by omega)) (by show fitsV 8 2 = true; decide) (by intro p hp; simp at hp; rcases hp with rfl | rfl; exact hx.1; exact hy.1) _ (by have := hx.2; have := hy.2; show x.size + 1 + (y.size + 1 + 0) + 24 ≤ a + c + 26; omega) (by omega)
theorem tn_seal (n : Nat) (hn : n < 18446744073709551616) (hx : Tn a x) (hy : Tn c y) (hz : Tn d z) (h : a + c + d ≤ 60000) : Tn (a + c + d + 27) (makeV 10 n [] [x, y, z]) :=
  tn_make (by omega) (by omega) hn (fun _ => by unfold allowedV; rw [if_neg (by decide), if_neg (by decide)]) (by show fitsV 10 3 = true; decide) (by intro p hp; simp at hp; rcases hp with rfl | rfl | rfl; exact hx.1; exact hy.1; exact hz.1) _ (by have := hx.2; have := hy.2; have := hz.2; show x.size + 1 + (y.size + 1 + (z.size + 1 + 0)) + 24 ≤ a + c + d + 27; omega) (by omega)
theorem tn_num (n : Nat) (hn : n < 18446744073709551616) : Tn 21 (numT n) := by
  have hd := dec_len n hn
  have h1 : numT n = bytesOf (txtL 3 n [] (sortV 3 [])) := make_is (k := 3) (n := n) (b := []) (l := []) (by decide) (fun _ => rfl) (by decide) (fun j hj => by simp at hj) (by
    show (letU 3 :: (if (3 : Int) = 2 ∨ (3 : Int) = 3 then Lib.decDigits n else _)).length ≤ 65536
    rw [if_pos (Or.inr rfl), List.length_cons]
    omega)
  have hne : numT n ≠ ByteArray.empty := by rw [h1]; exact bytes_ne (txt_ne _ _ _ _)
  refine ⟨by unfold numT at hne ⊢; rw [make_read hn hne]; rfl, ?_⟩
  rw [h1, bytesOf_size]
  show (letU 3 :: (if (3 : Int) = 2 ∨ (3 : Int) = 3 then Lib.decDigits n else _)).length ≤ 21
  rw [if_pos (Or.inr rfl), List.length_cons]
  omega
end
end
section
open Go.RowKit Go.Deep

def termsB (l : List ByteArray) : Bool := l.all fun p => decide (kindT p ≠ 0)
def pubsB (l : List ByteArray) : Bool := l.all fun p => decide (kindT p = 5)
def madeB (l : List ByteArray) : Bool := l.all fun p => decide (p ≠ ByteArray.empty)
theorem all_no {l : List ByteArray} {f : ByteArray → Bool} {j : Nat} (hj : j < l.length) (h : f (l.getD j ByteArray.empty) = false) : l.all f = false := by
  rw [List.all_eq_false]
  refine ⟨l.getD j ByteArray.empty, ?_, by rw [h]; decide⟩
  rw [List.getD_eq_getElem?_getD, List.getElem?_eq_getElem hj]
  exact List.getElem_mem hj
theorem all_yes {l : List ByteArray} {f : ByteArray → Bool} (h : ∀ j, j < l.length → f (l.getD j ByteArray.empty) = true) : l.all f = true := by
  rw [List.all_eq_true]
  intro p hp
  obtain ⟨j, hj, rfl⟩ := List.getElem_of_mem hp
  have := h j hj
  rw [List.getD_eq_getElem?_getD, List.getElem?_eq_getElem hj] at this
  exact this
theorem empty_is (p : ByteArray) : p.toList.isEmpty = decide (p = ByteArray.empty) := by
  by_cases h : p = ByteArray.empty
  · subst h; rw [decide_eq_true rfl]; kernel_rfl
  · rw [decide_eq_false h]
    cases h2 : p.toList.isEmpty with
    | false => rfl
    | true => exact absurd (toList_inj ((List.isEmpty_iff.1 h2).trans (by kernel_rfl))) h
set_option maxRecDepth 100000 in
set_option maxHeartbeats 12800000 in
theorem Nterms_any (w : World) (v : Value) (l : List ByteArray) (hv : Rd w [] v (strs l)) (hsz : ∀ p ∈ l, p.size ≤ maxLen) : Calls Tryz.prog 123 #[v] w (RetB (termsB l) w) := by
  obtain ⟨A, cap, rfl, hc1, hc2⟩ := hv.form
  unfold maxLen at hc2
  rw [strs_length] at hv hc1 ⊢
  obtain ⟨n, hn⟩ : ∃ n, n = l.length := ⟨_, rfl⟩
  rw [← hn] at hv hc1 ⊢
  have HX := hide hv
  have HN := hide hn
  have HO := hide (Only.refl [] w)
  have HSZ := hide hsz
  clear hv hn hsz
  go_enter Tryz.func123, Tryz.ntmps123
  go_wp2_with fail
  go_loopw [7] (fun i wr => ∃ j : Nat, j ≤ n ∧ i = .int .i64 j ∧ Hid (∀ i, i < j → (fun p => decide (kindT p ≠ 0)) (l.getD i ByteArray.empty) = true) ∧ Hid (Only [] w wr)) (fun i _ => n - (intOf i).toNat)
  case atStart => exact ⟨0, Nat.zero_le _, rfl, hide (fun i h => absurd h (Nat.not_lt_zero i)), HO⟩
  case round =>
    clear HO
    obtain ⟨j, hj, rfl, HA, HO⟩ := hrel
    by_cases hlt : j < n
    · have hltI : (j : Int) < n := by omega
      have hjl : j < l.length := by rw [← HN.out]; exact hlt
      obtain ⟨g, o, rfl, _, hg, hcell⟩ := (HX.out.only HO.out (by simp)).at_.2.2.2 j _ (get_txt hjl)
      have hpz : (l.getD j ByteArray.empty).size ≤ maxLen := HSZ.out _ (by rw [List.getD_eq_getElem?_getD, List.getElem?_eq_getElem hjl]; exact List.getElem_mem hjl)
      have HK := hide (fun W => Kind_any W _ hpz)
      unfold KindPost at HK
      generalize hp : l.getD j ByteArray.empty = p at *
      rcases Bool.eq_false_or_eq_true (decide (kindT p ≠ 0)) with he | he
      · have hkb : (kindT p == 0) = false := by have := of_decide_eq_true he; rw [beq_eq_false_iff_ne]; exact this
        have HZ := hide (show ∀ i, i < j + 1 → (fun p => decide (kindT p ≠ 0)) (l.getD i ByteArray.empty) = true from fun i hi => (Nat.lt_or_eq_of_le (Nat.le_of_lt_succ hi)).elim (HA.out i) (fun h => by rw [h, hp]; exact he))
        clear hp he hpz hjl
        generalize kindT p = kk at *
        go_wp2_with (go_at_call 53; refine (HK.out _).mono ?_; rintro e w1 ⟨rfl, ho⟩; replace HO := hide (HO.out.trans ho); clear ho)
        go_roundw
        case rel => exact ⟨j + 1, by omega, by go_num, HZ, HO⟩
        case measure => simp [intOf]; omega
      · have hkb : (kindT p == 0) = true := by have := of_decide_eq_false he; rw [beq_iff_eq]; exact Decidable.not_not.1 this
        have HR := hide (show termsB l = false from all_no hjl (by rw [hp]; exact he))
        clear hp he hpz hjl
        generalize kindT p = kk at *
        go_wp2_with (go_at_call 53; refine (HK.out _).mono ?_; rintro e w1 ⟨rfl, ho⟩; replace HO := hide (HO.out.trans ho); clear ho)
        go_ret
        exact retb HR.out HO.out
    · have hge : ¬ (j : Int) < n := by omega
      have HR := hide (show termsB l = true from all_yes (fun i hi => HA.out i (by have := HN.out; omega)))
      go_wp2_with fail
      go_ret
      exact retb HR.out HO.out
set_option maxRecDepth 100000 in
set_option maxHeartbeats 12800000 in
theorem Npubs_any (w : World) (v : Value) (l : List ByteArray) (hv : Rd w [] v (strs l)) (hsz : ∀ p ∈ l, p.size ≤ maxLen) : Calls Tryz.prog 124 #[v] w (RetB (pubsB l) w) := by
  obtain ⟨A, cap, rfl, hc1, hc2⟩ := hv.form
  unfold maxLen at hc2
  rw [strs_length] at hv hc1 ⊢
  obtain ⟨n, hn⟩ : ∃ n, n = l.length := ⟨_, rfl⟩
  rw [← hn] at hv hc1 ⊢
  have HX := hide hv
  have HN := hide hn
  have HO := hide (Only.refl [] w)
  have HSZ := hide hsz
  clear hv hn hsz
  go_enter Tryz.func124, Tryz.ntmps124
  go_wp2_with fail
  go_loopw [7] (fun i wr => ∃ j : Nat, j ≤ n ∧ i = .int .i64 j ∧ Hid (∀ i, i < j → (fun p => decide (kindT p = 5)) (l.getD i ByteArray.empty) = true) ∧ Hid (Only [] w wr)) (fun i _ => n - (intOf i).toNat)
  case atStart => exact ⟨0, Nat.zero_le _, rfl, hide (fun i h => absurd h (Nat.not_lt_zero i)), HO⟩
  case round =>
    clear HO
    obtain ⟨j, hj, rfl, HA, HO⟩ := hrel
    by_cases hlt : j < n
    · have hltI : (j : Int) < n := by omega
      have hjl : j < l.length := by rw [← HN.out]; exact hlt
      obtain ⟨g, o, rfl, _, hg, hcell⟩ := (HX.out.only HO.out (by simp)).at_.2.2.2 j _ (get_txt hjl)
      have hpz : (l.getD j ByteArray.empty).size ≤ maxLen := HSZ.out _ (by rw [List.getD_eq_getElem?_getD, List.getElem?_eq_getElem hjl]; exact List.getElem_mem hjl)
      have HK := hide (fun W => Kind_any W _ hpz)
      unfold KindPost at HK
      generalize hp : l.getD j ByteArray.empty = p at *
      rcases Bool.eq_false_or_eq_true (decide (kindT p = 5)) with he | he
      · have hkb : (kindT p != 5) = false := by have := of_decide_eq_true he; rw [bne_eq_false_iff_eq]; exact this
        have HZ := hide (show ∀ i, i < j + 1 → (fun p => decide (kindT p = 5)) (l.getD i ByteArray.empty) = true from fun i hi => (Nat.lt_or_eq_of_le (Nat.le_of_lt_succ hi)).elim (HA.out i) (fun h => by rw [h, hp]; exact he))
        clear hp he hpz hjl
        generalize kindT p = kk at *
        go_wp2_with (go_at_call 53; refine (HK.out _).mono ?_; rintro e w1 ⟨rfl, ho⟩; replace HO := hide (HO.out.trans ho); clear ho)
        go_roundw
        case rel => exact ⟨j + 1, by omega, by go_num, HZ, HO⟩
        case measure => simp [intOf]; omega
      · have hkb : (kindT p != 5) = true := by have := of_decide_eq_false he; rw [bne_iff_ne]; exact this
        have HR := hide (show pubsB l = false from all_no hjl (by rw [hp]; exact he))
        clear hp he hpz hjl
        generalize kindT p = kk at *
        go_wp2_with (go_at_call 53; refine (HK.out _).mono ?_; rintro e w1 ⟨rfl, ho⟩; replace HO := hide (HO.out.trans ho); clear ho)
        go_ret
        exact retb HR.out HO.out
    · have hge : ¬ (j : Int) < n := by omega
      have HR := hide (show pubsB l = true from all_yes (fun i hi => HA.out i (by have := HN.out; omega)))
      go_wp2_with fail
      go_ret
      exact retb HR.out HO.out
set_option maxRecDepth 100000 in
set_option maxHeartbeats 12800000 in
theorem Nmade_any (w : World) (v : Value) (l : List ByteArray) (hv : Rd w [] v (strs l)) (hsz : ∀ p ∈ l, p.size ≤ maxLen) : Calls Tryz.prog 131 #[v] w (RetB (madeB l) w) := by
  obtain ⟨A, cap, rfl, hc1, hc2⟩ := hv.form
  unfold maxLen at hc2
  rw [strs_length] at hv hc1 ⊢
  obtain ⟨n, hn⟩ : ∃ n, n = l.length := ⟨_, rfl⟩
  rw [← hn] at hv hc1 ⊢
  have HX := hide hv
  have HN := hide hn
  have HO := hide (Only.refl [] w)
  have HSZ := hide hsz
  clear hv hn hsz
  go_enter Tryz.func131, Tryz.ntmps131
  go_wp2_with fail
  go_loopw [7] (fun i wr => ∃ j : Nat, j ≤ n ∧ i = .int .i64 j ∧ Hid (∀ i, i < j → (fun p => decide (p ≠ ByteArray.empty)) (l.getD i ByteArray.empty) = true) ∧ Hid (Only [] w wr)) (fun i _ => n - (intOf i).toNat)
  case atStart => exact ⟨0, Nat.zero_le _, rfl, hide (fun i h => absurd h (Nat.not_lt_zero i)), HO⟩
  case round =>
    clear HO
    obtain ⟨j, hj, rfl, HA, HO⟩ := hrel
    by_cases hlt : j < n
    · have hltI : (j : Int) < n := by omega
      have hjl : j < l.length := by rw [← HN.out]; exact hlt
      obtain ⟨g, o, rfl, _, hg, hcell⟩ := (HX.out.only HO.out (by simp)).at_.2.2.2 j _ (get_txt hjl)
      have hpz : (l.getD j ByteArray.empty).size ≤ maxLen := HSZ.out _ (by rw [List.getD_eq_getElem?_getD, List.getElem?_eq_getElem hjl]; exact List.getElem_mem hjl)
      generalize hp : l.getD j ByteArray.empty = p at *
      have hei := empty_is p
      rcases Bool.eq_false_or_eq_true (decide (p ≠ ByteArray.empty)) with he | he
      · have hem : p.toList.isEmpty = false := by rw [hei]; exact decide_eq_false (of_decide_eq_true he)
        have HZ := hide (show ∀ i, i < j + 1 → (fun p => decide (p ≠ ByteArray.empty)) (l.getD i ByteArray.empty) = true from fun i hi => (Nat.lt_or_eq_of_le (Nat.le_of_lt_succ hi)).elim (HA.out i) (fun h => by rw [h, hp]; exact he))
        clear hp he hpz hjl hei
        go_wp2_with fail
        go_roundw
        case rel => exact ⟨j + 1, by omega, by go_num, HZ, HO⟩
        case measure => simp [intOf]; omega
      · have hem : p.toList.isEmpty = true := by rw [hei]; exact decide_eq_true (Decidable.not_not.1 (of_decide_eq_false he))
        have HR := hide (show madeB l = false from all_no hjl (by rw [hp]; exact he))
        clear hp he hpz hjl hei
        go_wp2_with fail
        go_ret
        exact retb HR.out HO.out
    · have hge : ¬ (j : Int) < n := by omega
      have HR := hide (show madeB l = true from all_yes (fun i hi => HA.out i (by have := HN.out; omega)))
      go_wp2_with fail
      go_ret
      exact retb HR.out HO.out
theorem terms_new2 (w : World) (G : Nat) (hG : G = w.heap.size) (x0 x1 : ByteArray) (h0 : x0.size ≤ maxLen) (h1 : x1.size ≤ maxLen) : Calls Tryz.prog 123 #[.slice (some ⟨G, 0, none⟩) 2 2] (w.alloc (.cells #[.string x0, .string x1] 9)) (RetB (termsB [x0, x1]) w) := by
  subst hG
  exact (Nterms_any (w.alloc (.cells #[.string x0, .string x1] 9)) _ [x0, x1] (rd_new w 9 [] (strs [x0, x1]) (by simp) (by unfold maxLen; show 2 ≤ _; omega)) (by intro p hp; simp at hp; rcases hp with rfl | rfl <;> assumption)).mono fun e w' h => ⟨h.1, ((Only.refl [] w).alloc _).trans h.2⟩
theorem pubs_new1 (w : World) (G : Nat) (hG : G = w.heap.size) (x0 : ByteArray) (h0 : x0.size ≤ maxLen) : Calls Tryz.prog 124 #[.slice (some ⟨G, 0, none⟩) 1 1] (w.alloc (.cells #[.string x0] 9)) (RetB (pubsB [x0]) w) := by
  subst hG
  exact (Npubs_any (w.alloc (.cells #[.string x0] 9)) _ [x0] (rd_new w 9 [] (strs [x0]) (by simp) (by unfold maxLen; show 1 ≤ _; omega)) (by intro p hp; simp at hp; rcases hp with rfl <;> assumption)).mono fun e w' h => ⟨h.1, ((Only.refl [] w).alloc _).trans h.2⟩
theorem made_new5 (w : World) (G : Nat) (hG : G = w.heap.size) (x0 x1 x2 x3 x4 : ByteArray) (h0 : x0.size ≤ maxLen) (h1 : x1.size ≤ maxLen) (h2 : x2.size ≤ maxLen) (h3 : x3.size ≤ maxLen) (h4 : x4.size ≤ maxLen) : Calls Tryz.prog 131 #[.slice (some ⟨G, 0, none⟩) 5 5] (w.alloc (.cells #[.string x0, .string x1, .string x2, .string x3, .string x4] 9)) (RetB (madeB [x0, x1, x2, x3, x4]) w) := by
  subst hG
  exact (Nmade_any (w.alloc (.cells #[.string x0, .string x1, .string x2, .string x3, .string x4] 9)) _ [x0, x1, x2, x3, x4] (rd_new w 9 [] (strs [x0, x1, x2, x3, x4]) (by simp) (by unfold maxLen; show 5 ≤ _; omega)) (by intro p hp; simp at hp; rcases hp with rfl | rfl | rfl | rfl | rfl <;> assumption)).mono fun e w' h => ⟨h.1, ((Only.refl [] w).alloc _).trans h.2⟩
noncomputable def pubT (x : ByteArray) : ByteArray := makeV 5 0 [] [x]
noncomputable def hashT (x y : ByteArray) : ByteArray := makeV 7 0 [] [x, y]
noncomputable def kdfT (n : Nat) (x y : ByteArray) : ByteArray := makeV 8 n [] [x, y]
noncomputable def sealN (x y z : ByteArray) : ByteArray := makeV 10 0 [] [x, y, z]
theorem pubT_size (x : ByteArray) : (pubT x).size ≤ maxLen := make_size' _ _ _ _ (by omega)
theorem hashT_size (x y : ByteArray) : (hashT x y).size ≤ maxLen := make_size' _ _ _ _ (by omega)
theorem kdfT_size (n : Nat) (hn : n < 18446744073709551616) (x y : ByteArray) : (kdfT n x y).size ≤ maxLen := make_size' _ _ _ _ hn
theorem sealN_size (x y z : ByteArray) : (sealN x y z).size ≤ maxLen := make_size' _ _ _ _ (by omega)
theorem agreeT_size (x y : ByteArray) : (agreeT x y).size ≤ maxLen := by
  unfold agreeT
  cases parseV y with
  | none => exact Nat.zero_le _
  | some nd =>
    simp only
    split
    · exact make_size' _ _ _ _ (by omega)
    · exact Nat.zero_le _
set_option maxRecDepth 100000 in
set_option maxHeartbeats 12800000 in
theorem public_any (w : World) (x : ByteArray) (hx : x.size ≤ maxLen) (htab : Tab w) : Calls Tryz.prog 125 #[.string x] w (MakePost (pubT x) w) := by
  have HT := hide htab
  clear htab
  go_enter Tryz.func125, Tryz.ntmps125
  go_wp2_with (go_at_call 122; refine (make_new1 _ HT.out _ rfl 5 (by decide) 0 (by omega) x hx).mono ?_; rintro e w2 ⟨rfl, ho⟩; have HO := hide ho; clear ho)
  go_ret
  exact makepost rfl HO.out
set_option maxRecDepth 100000 in
set_option maxHeartbeats 12800000 in
theorem kdf_any (w : World) (n : Nat) (hn : n < 18446744073709551616) (x y : ByteArray) (hx : x.size ≤ maxLen) (hy : y.size ≤ maxLen) (htab : Tab w) : Calls Tryz.prog 134 #[.int .u64 n, .string x, .string y] w (MakePost (kdfT n x y) w) := by
  have HT := hide htab
  clear htab
  have HN := hide hn
  clear hn
  go_enter Tryz.func134, Tryz.ntmps134
  go_wp2_with (go_at_call 122; refine (make_new2 _ HT.out _ rfl 8 (by decide) n HN.out x y hx hy).mono ?_; rintro e w2 ⟨rfl, ho⟩; have HO := hide ho; clear ho)
  go_ret
  exact makepost rfl HO.out
theorem kdf1_any (w : World) (x y : ByteArray) (hx : x.size ≤ maxLen) (hy : y.size ≤ maxLen) (htab : Tab w) : Calls Tryz.prog 134 #[.int .u64 1, .string x, .string y] w (MakePost (kdfT 1 x y) w) := kdf_any w 1 (by omega) x y hx hy htab
theorem kdf2_any (w : World) (x y : ByteArray) (hx : x.size ≤ maxLen) (hy : y.size ≤ maxLen) (htab : Tab w) : Calls Tryz.prog 134 #[.int .u64 2, .string x, .string y] w (MakePost (kdfT 2 x y) w) := kdf_any w 2 (by omega) x y hx hy htab
set_option maxRecDepth 100000 in
set_option maxHeartbeats 12800000 in
theorem nseal_any (w : World) (x y z : ByteArray) (hx : x.size ≤ maxLen) (hy : y.size ≤ maxLen) (hz : z.size ≤ maxLen) (htab : Tab w) : Calls Tryz.prog 129 #[.string x, .string y, .string z] w (MakePost (sealN x y z) w) := by
  have HT := hide htab
  clear htab
  go_enter Tryz.func129, Tryz.ntmps129
  go_wp2_with (go_at_call 122; refine (make_new3 _ HT.out _ rfl 10 (by decide) 0 (by omega) x y z hx hy hz).mono ?_; rintro e w2 ⟨rfl, ho⟩; have HO := hide ho; clear ho)
  go_ret
  exact makepost rfl HO.out
set_option maxRecDepth 100000 in
set_option maxHeartbeats 12800000 in
theorem sum_new2 (w : World) (htab : Tab w) (G : Nat) (hG : G = w.heap.size) (x y : ByteArray) (hx : x.size ≤ maxLen) (hy : y.size ≤ maxLen) : Calls Tryz.prog 189 #[.slice (some ⟨G, 0, none⟩) 2 2] (w.alloc (.cells #[.string x, .string y] 9)) (MakePost (hashT x y) w) := by
  have HM := hide (make_new2 w htab G hG 7 (by decide) 0 (by omega) x y hx hy)
  unfold MakePost at HM
  clear htab hG hx hy
  generalize (w.alloc (.cells #[.string x, .string y] 9)) = w0 at *
  go_enter Tryz.func189, Tryz.ntmps189
  go_wp2_with (go_at_call 122; refine HM.out.mono ?_; rintro e w2 ⟨rfl, ho⟩; have HO := hide ho; clear ho)
  go_ret
  exact makepost rfl HO.out
end
section
open Go.RowKit Go.Deep

theorem first_size : (⟨#[104, 40, 120, 55, 51, 54, 101, 54, 57, 54, 51, 54, 98, 54, 53, 55, 52, 41]⟩ : ByteArray).size ≤ maxLen := by unfold maxLen; show 18 ≤ _; omega
theorem zero_size : (⟨#[48]⟩ : ByteArray).size ≤ maxLen := by unfold maxLen; show 1 ≤ _; omega
noncomputable def begC (eph : ByteArray) : ByteArray := kdfT 1 ⟨#[104, 40, 120, 55, 51, 54, 101, 54, 57, 54, 51, 54, 98, 54, 53, 55, 52, 41]⟩ eph
noncomputable def begH (p eph : ByteArray) : ByteArray := hashT (hashT ⟨#[104, 40, 120, 55, 51, 54, 101, 54, 57, 54, 51, 54, 98, 54, 53, 55, 52, 41]⟩ p) eph
def StatePost (c h : ByteArray) (w : World) (e : Ending) (w' : World) : Prop := e = .returned (.agg #[.string c, .string h]) ∧ Only [] w w'
def StIs (w : World) (g : Nat) (c h : ByteArray) : Prop := Blk w g 207 #[.string c, .string h]
set_option maxRecDepth 100000 in
set_option maxHeartbeats 12800000 in
theorem begin_any (w : World) (p eph : ByteArray) (hp : p.size ≤ maxLen) (he : eph.size ≤ maxLen) (htab : Tab w) : Calls Tryz.prog 126 #[.string p, .string eph] w (StatePost (begC eph) (begH p eph) w) := by
  have HB := hide (Blk.new w 207 #[.string ⟨#[]⟩, .string ⟨#[]⟩])
  have HO := hide (((Only.refl [w.heap.size] w).alloc (.cells #[.string ⟨#[]⟩, .string ⟨#[]⟩] 207)))
  have HT := hide (htab.only HO.out (by simp))
  replace HO := hide (((Only.refl [] w).alloc (.cells #[.string ⟨#[]⟩, .string ⟨#[]⟩] 207)))
  have HP := hide hp
  have HE := hide he
  clear htab hp he
  go_enter Tryz.func126, Tryz.ntmps126
  go_upto_region 1 with fail
  generalize (w.alloc (.cells #[.string ⟨#[]⟩, .string ⟨#[]⟩] 207)) = v0 at *
  have b0 := HB.out.cell 0; have b1 := HB.out.cell 1; simp at b0 b1; have bf := HB.out.frozen
  go_wp2_with (first
    | (go_at_call 134; (with_reducible refine (kdf1_any _ ⟨#[104, 40, 120, 55, 51, 54, 101, 54, 57, 54, 51, 54, 98, 54, 53, 55, 52, 41]⟩ eph first_size HE.out HT.out).mono ?_); rintro e w1 ⟨rfl, ho⟩; replace HT := hide (HT.out.only ho (by simp)); replace HO := hide (HO.out.trans ho); replace HB := hide (HB.out.only ho (by simp)); (first | (clear b0 b1 bf) | skip); have b0 := HB.out.cell 0; have b1 := HB.out.cell 1; simp at b0 b1; have bf := HB.out.frozen; clear ho)
    | (go_at_call 189; (with_reducible refine (sum_new2 _ HT.out _ rfl ⟨#[104, 40, 120, 55, 51, 54, 101, 54, 57, 54, 51, 54, 98, 54, 53, 55, 52, 41]⟩ p first_size HP.out).mono ?_); rintro e w2 ⟨rfl, ho⟩; replace HT := hide (HT.out.only ho (by simp)); replace HO := hide (HO.out.trans ho); replace HB := hide (HB.out.only ho (by simp)); (first | (clear b0 b1 bf) | skip); have b0 := HB.out.cell 0; have b1 := HB.out.cell 1; simp at b0 b1; have bf := HB.out.frozen; clear ho)
    | (go_at_call 189; (with_reducible refine (sum_new2 _ HT.out _ rfl (hashT ⟨#[104, 40, 120, 55, 51, 54, 101, 54, 57, 54, 51, 54, 98, 54, 53, 55, 52, 41]⟩ p) eph (hashT_size _ _) HE.out).mono ?_); rintro e w3 ⟨rfl, ho⟩; replace HT := hide (HT.out.only ho (by simp)); replace HO := hide (HO.out.trans ho); replace HB := hide (HB.out.only ho (by simp)); (first | (clear b0 b1 bf) | skip); have b0 := HB.out.cell 0; have b1 := HB.out.cell 1; simp at b0 b1; have bf := HB.out.frozen; clear ho))
  refine bodyPost_ret (results_cell_row rfl _ _ w.heap.size 207 _ (0, 0) _ rfl ((HB.out.set_ 0 _).set_ 1 _) Tryz.underlying207 rfl (by kernel_rfl)) rfl ?_
  exact ⟨rfl, (HO.out.setCell (.inr (Nat.le_refl _)) _).setCell (.inr (Nat.le_refl _)) _⟩
set_option maxRecDepth 100000 in
set_option maxHeartbeats 12800000 in
theorem mix_any (w : World) (g : Nat) (c h u : ByteArray) (hb : StIs w g c h) (hc : c.size ≤ maxLen) (hu : u.size ≤ maxLen) (htab : Tab w) : Calls Tryz.prog 127 #[.pointer (some ⟨g, 0, none⟩), .string u] w fun e w' => e = .returned (.string (kdfT 2 c u)) ∧ StIs w' g (kdfT 1 c u) h ∧ Only [g] w w' := by
  have HB := hide (show Blk w g 207 #[.string c, .string h] from hb)
  have HO := hide (Only.refl [] w)
  have HT := hide htab
  have HC := hide hc
  have HU := hide hu
  clear htab hc hu hb
  have b0 := HB.out.cell 0; have b1 := HB.out.cell 1; simp at b0 b1; have bf := HB.out.frozen
  go_enter Tryz.func127, Tryz.ntmps127
  go_wp2_with (first
    | (go_at_call 134; (with_reducible refine (kdf2_any _ c u HC.out HU.out HT.out).mono ?_); rintro e w1 ⟨rfl, ho⟩; replace HT := hide (HT.out.only ho (by simp)); replace HO := hide (HO.out.trans ho); replace HB := hide (HB.out.only ho (by simp)); (first | (clear b0 b1 bf) | skip); have b0 := HB.out.cell 0; have b1 := HB.out.cell 1; simp at b0 b1; have bf := HB.out.frozen; clear ho)
    | (go_at_call 134; (with_reducible refine (kdf1_any _ c u HC.out HU.out HT.out).mono ?_); rintro e w2 ⟨rfl, ho⟩; replace HT := hide (HT.out.only ho (by simp)); replace HO := hide (HO.out.trans ho); replace HB := hide (HB.out.only ho (by simp)); (first | (clear b0 b1 bf) | skip); have b0 := HB.out.cell 0; have b1 := HB.out.cell 1; simp at b0 b1; have bf := HB.out.frozen; clear ho))
  go_ret
  exact ⟨rfl, HB.out.set_ 0 _, ((HO.out.mono (S' := [g]) (by simp)).setCell (.inl (by simp)) _)⟩
set_option maxRecDepth 100000 in
set_option maxHeartbeats 12800000 in
theorem add_any (w : World) (g : Nat) (c h u : ByteArray) (hb : StIs w g c h) (hh : h.size ≤ maxLen) (hu : u.size ≤ maxLen) (htab : Tab w) : Calls Tryz.prog 130 #[.pointer (some ⟨g, 0, none⟩), .string u] w fun e w' => e = .returned (.tuple #[]) ∧ StIs w' g c (hashT h u) ∧ Only [g] w w' := by
  have HB := hide (show Blk w g 207 #[.string c, .string h] from hb)
  have HO := hide (Only.refl [] w)
  have HT := hide htab
  have HC := hide hh
  have HU := hide hu
  clear htab hh hu hb
  have b0 := HB.out.cell 0; have b1 := HB.out.cell 1; simp at b0 b1; have bf := HB.out.frozen
  go_enter Tryz.func130, Tryz.ntmps130
  go_wp2_with (first
    | (go_at_call 189; (with_reducible refine (sum_new2 _ HT.out _ rfl h u HC.out HU.out).mono ?_); rintro e w1 ⟨rfl, ho⟩; replace HT := hide (HT.out.only ho (by simp)); replace HO := hide (HO.out.trans ho); replace HB := hide (HB.out.only ho (by simp)); (first | (clear b0 b1 bf) | skip); have b0 := HB.out.cell 0; have b1 := HB.out.cell 1; simp at b0 b1; have bf := HB.out.frozen; clear ho))
  refine bodyPost_end (results_none rfl _ _ _) rfl ?_
  exact ⟨rfl, HB.out.set_ 1 _, ((HO.out.mono (S' := [g]) (by simp)).setCell (.inl (by simp)) _)⟩
noncomputable def endC (c eph u v : ByteArray) : ByteArray := kdfT 1 (kdfT 1 (kdfT 1 c eph) u) v
noncomputable def endA (c eph u v q : ByteArray) : ByteArray := kdfT 1 (endC c eph u v) q
noncomputable def endK (c eph u v q : ByteArray) : ByteArray := kdfT 3 (endC c eph u v) q
noncomputable def endW (c h eph u v q : ByteArray) : ByteArray := hashT (hashT h eph) (kdfT 2 (endC c eph u v) q)
end
end Go.Proofs.YtcokjoidpnfjhaaGreatDoor

/-
  Walks and plain words (texts No14, Nk0, Nk1, Nk2, Nl1). No condition beyond those that each theorem states.
-/
import Derived.Test.YtcokjoidpnfjhaaGreatDoorA23
namespace Go.Proofs.YtcokjoidpnfjhaaGreatDoor
section
open Go.RowKit Go.Deep

/-- What Finish hands back: the code and both keys. -/
noncomputable def finV (ep c h s q : ByteArray) (sd : Nat) (m : Mg) : Int × ByteArray × ByteArray :=
  let uA := agreeT ep m.x4
  let uB := agreeT s m.x4
  let la := endA c m.x4 uA uB q
  let p := openT m.x7 (endK c m.x4 uA uB q) 0 (endW c h m.x4 uA uB q)
  if termsB [s, q, ep, c, h] = false ∨ rightM m = false ∨ m.k ≠ 2 ∨ pubsB [m.x4] = false then (3, ByteArray.empty, ByteArray.empty)
  else if m.r ≠ sd then (6, ByteArray.empty, ByteArray.empty)
  else if p.2 ≠ 0 ∨ p.1 ≠ ⟨#[48]⟩ then (8, ByteArray.empty, ByteArray.empty)
  else if madeB [kdfT 1 la ⟨#[48]⟩, kdfT 2 la ⟨#[48]⟩] = false then (5, ByteArray.empty, ByteArray.empty)
  else (0, kdfT 1 la ⟨#[48]⟩, kdfT 2 la ⟨#[48]⟩)
end
section
open Go.RowKit Go.Deep

/-- What Hear tells. -/
structure Hrd where
  k : Int
  p : ByteArray
  n : Nat
  c : ByteArray
  h : ByteArray
/-- What Answer tells. -/
structure Ans where
  k : Int
  eph : ByteArray
  em : ByteArray
  a : ByteArray
  b : ByteArray
/-- Is it a term? -/
def isV (s : ByteArray) : Bool := (parseV s).isSome
theorem isT_kind (s : ByteArray) : decide (kindT s ≠ 0) = isV s := by
  unfold isV
  rw [what_kind, what_is]
theorem terms_all (l : List ByteArray) : termsB l = l.all isV := by
  unfold termsB
  congr 1
  funext s
  exact isT_kind s
section
variable {a c d : Nat} {x y z : ByteArray}
theorem pub_parse (hx : Tn a x) (h : a ≤ 60000) : parseV (pubT x) = some (5, 0, [], [x]) := by
  have hr := make_read (k := 5) (n := 0) (b := []) (l := [x]) (by omega) (tn_pub hx h).ne
  rw [sort_not6 (by omega)] at hr
  exact hr
theorem pub_kind (hx : Tn a x) (h : a ≤ 60000) : kindT (pubT x) = 5 := by
  unfold kindT
  rw [pub_parse hx h]
theorem agree_is (hy : Tn a y) (h : a ≤ 60000) : agreeT x (pubT y) = makeV 6 0 [] [x, y] := by
  unfold agreeT
  rw [pub_parse hy h]
  rfl
theorem agree_swap (hx : Tn a x) (hy : Tn c y) (h : a ≤ 60000) (h2 : c ≤ 60000) : agreeT x (pubT y) = agreeT y (pubT x) := by
  rw [agree_is hy h2, agree_is hx h, make_swap]
theorem tn_agree (hx : Tn a x) (hy : Tn c y) (h : a + c ≤ 60000) : Tn (a + c + 26) (agreeT x (pubT y)) := by
  rw [agree_is hy (by omega)]
  exact tn_two 6 (.inl rfl) hx hy h
theorem kdf_inj {n m : Nat} {x' y' : ByteArray} (hn : 1 ≤ n ∧ n ≤ 3) (hm : 1 ≤ m ∧ m ≤ 3) (hx : Tn a x) (hy : Tn c y) (h : a + c ≤ 60000) (e : kdfT n x y = kdfT m x' y') : n = m ∧ x = x' ∧ y = y' := by
  have h0 := (tn_kdf n hn hx hy h).ne
  have h1 := make_read (k := 8) (n := n) (b := []) (l := [x, y]) (by omega) h0
  have h2 := make_read (k := 8) (n := m) (b := []) (l := [x', y']) (by omega) (show kdfT m x' y' ≠ ByteArray.empty from e ▸ h0)
  rw [show makeV 8 n [] [x, y] = makeV 8 m [] [x', y'] from e, h2] at h1
  rw [sort_not6 (by omega), sort_not6 (by omega)] at h1
  have h3 : ((8 : Int), m, ([] : List UInt8), [x', y']) = ((8 : Int), n, ([] : List UInt8), [x, y]) := Option.some.inj h1
  simp only [Prod.mk.injEq, List.cons.injEq, and_true, true_and] at h3
  exact ⟨h3.1.symm, h3.2.1.symm, h3.2.2.symm⟩
theorem open_seal (hx : Tn a x) (hy : Tn c y) (hz : Tn d z) (h : a + c + d ≤ 60000) (k v : ByteArray) : openT (sealN x y z) k 0 v = if k = x ∧ v = z then (y, 0) else (ByteArray.empty, 8) := by
  have hr := make_read (k := 10) (n := 0) (b := []) (l := [x, y, z]) (by omega) (tn_seal 0 (by omega) hx hy hz h).ne
  rw [sort_not6 (by omega)] at hr
  unfold openT sealN
  rw [hr]
  simp only
  rw [if_neg (by decide)]
  by_cases hc : k = x ∧ v = z
  · rw [if_pos hc, if_pos ⟨hc.1.symm, rfl, hc.2.symm⟩]; rfl
  · rw [if_neg hc, if_neg (fun c => hc ⟨c.1.symm, c.2.2.symm⟩)]
/-- What opens is a seal. -/
theorem open_back {t k v u : ByteArray} (h : openT t k 0 v = (u, 0)) : t = sealN k u v ∧ isV u = true ∧ u.size ≤ t.size := by
  unfold openT at h
  cases hp : parseV t with
  | none => rw [hp] at h; simp only [Prod.mk.injEq] at h; exact absurd h.2 (by decide)
  | some nd =>
    obtain ⟨k', m, b, l⟩ := nd
    rw [hp] at h
    simp only at h
    by_cases hk : k' ≠ 10
    · rw [if_pos hk] at h; simp only [Prod.mk.injEq] at h; exact absurd h.2 (by decide)
    · rw [if_neg hk] at h
      have hk2 : k' = 10 := Decidable.not_not.1 hk
      subst hk2
      obtain ⟨h1, _, _, h4, _, h6, h7, h8, h9, _⟩ := read_make hp
      obtain ⟨p0, p1, p2, rfl⟩ := three_of rfl h4
      have e7 : b = [] := h7 (by decide)
      subst e7
      by_cases hc : p0 = k ∧ m = 0 ∧ p2 = v
      · rw [if_pos (show [p0, p1, p2].getD 0 ByteArray.empty = k ∧ m = 0 ∧ [p0, p1, p2].getD 2 ByteArray.empty = v from hc)] at h
        simp only [Prod.mk.injEq] at h
        have hu : p1 = u := h.1
        obtain ⟨rfl, rfl, rfl⟩ := hc
        subst hu
        exact ⟨h1.symm, h8 p1 (by simp), h9 p1 (by simp)⟩
      · rw [if_neg (show ¬ ([p0, p1, p2].getD 0 ByteArray.empty = k ∧ m = 0 ∧ [p0, p1, p2].getD 2 ByteArray.empty = v) from hc)] at h
        simp only [Prod.mk.injEq] at h
        exact absurd h.2 (by decide)
end
theorem made_all {l : List ByteArray} (h : ∀ p ∈ l, p ≠ ByteArray.empty) : madeB l = true := by
  unfold madeB
  rw [List.all_eq_true]
  intro p hp
  exact decide_eq_true (h p hp)
theorem tn_first : Tn 18 ⟨#[104, 40, 120, 55, 51, 54, 101, 54, 57, 54, 51, 54, 98, 54, 53, 55, 52, 41]⟩ := ⟨by kernel_rfl, Nat.le_refl _⟩
theorem tn_begC {a : Nat} {e : ByteArray} (h : Tn a e) (ha : a ≤ 50000) : Tn (18 + a + 26) (begC e) := tn_kdf 1 (by omega) tn_first h (by omega)
theorem tn_begH {a c : Nat} {p e : ByteArray} (hp : Tn c p) (h : Tn a e) (ha : a + c ≤ 50000) : Tn (18 + c + 26 + a + 26) (begH p e) := tn_two 7 (.inr (.inl rfl)) (tn_two 7 (.inr (.inl rfl)) tn_first hp (by omega)) h (by omega)
theorem tn_zeroT : Tn 1 ⟨#[48]⟩ := ⟨by kernel_rfl, Nat.le_refl _⟩
theorem fit_tn {N : Nat} {s : ByteArray} (h : Tn N s) (hN : N ≤ 65535) : fitW s = true := by
  unfold fitW
  rw [decide_eq_true (Nat.le_trans h.2 hN), h.1]
  rfl
end
section
open Go.RowKit Go.Deep

theorem termsB_yes {l : List ByteArray} (h : ∀ p ∈ l, isV p = true) : termsB l = true := by
  rw [terms_all, List.all_eq_true]; exact h
theorem pubs_one {p : ByteArray} : pubsB [p] = decide (kindT p = 5) := by
  unfold pubsB
  simp
/-- What Begin makes, part by part. -/
structure BegE (s e tt : ByteArray) (n : Nat) (ep cA hA uA kA cB ps sA hB uB kB cC nb sB hC : ByteArray) : Prop where
  e0 : pubT e = ep
  e1 : begC ep = cA
  e2 : begH tt ep = hA
  e3 : agreeT e tt = uA
  e4 : kdfT 2 cA uA = kA
  e5 : kdfT 1 cA uA = cB
  e6 : pubT s = ps
  e7 : sealN kA ps hA = sA
  e8 : hashT hA sA = hB
  e9 : agreeT s tt = uB
  e10 : kdfT 2 cB uB = kB
  e11 : kdfT 1 cB uB = cC
  e12 : numT n = nb
  e13 : sealN kB nb hB = sB
  e14 : hashT hB sB = hC
theorem begE (s e tt : ByteArray) (n : Nat) : ∃ ep cA hA uA kA cB ps sA hB uB kB cC nb sB hC, BegE s e tt n ep cA hA uA kA cB ps sA hB uB kB cC nb sB hC :=
  ⟨_, _, _, _, _, _, _, _, _, _, _, _, _, _, _, rfl, rfl, rfl, rfl, rfl, rfl, rfl, rfl, rfl, rfl, rfl, rfl, rfl, rfl, rfl⟩
section
variable {s e tt : ByteArray} {n : Nat} {ep cA hA uA kA cB ps sA hB uB kB cC nb sB hC : ByteArray}
theorem BegE.is (E : BegE s e tt n ep cA hA uA kA cB ps sA hB uB kB cC nb sB hC) : begV s e tt n = ⟨ep, sA, sB, cC, hC⟩ := by
  unfold begV
  simp only [E.e0, E.e1, E.e2, E.e3, E.e4, E.e5, E.e6, E.e7, E.e8, E.e9, E.e10, E.e11, E.e12, E.e13, E.e14]
end
section
variable {s e r o : ByteArray} {n sd : Nat} {ep cA hA uA kA cB ps sA hB uB kB cC nb sB hC : ByteArray}
/-- The sizes of what Begin makes. -/
structure BegT (ep cA hA uA kA cB ps sA hB uB kB cC nb sB hC : ByteArray) : Prop where
  ep : Tn 225 ep
  cA : Tn 269 cA
  hA : Tn 520 hA
  uA : Tn 426 uA
  kA : Tn 721 kA
  cB : Tn 721 cB
  ps : Tn 225 ps
  sA : Tn 1493 sA
  hB : Tn 2039 hB
  uB : Tn 426 uB
  kB : Tn 1173 kB
  cC : Tn 1173 cC
  nb : Tn 21 nb
  sB : Tn 3260 sB
  hC : Tn 5325 hC
theorem BegE.sizes (E : BegE s e (pubT r) n ep cA hA uA kA cB ps sA hB uB kB cC nb sB hC) (hs : Tn 200 s) (he : Tn 200 e) (hr : Tn 200 r) (hn : n < 18446744073709551616) : BegT ep cA hA uA kA cB ps sA hB uB kB cC nb sB hC := by
  obtain ⟨e0, e1, e2, e3, e4, e5, e6, e7, e8, e9, e10, e11, e12, e13, e14⟩ := E
  have t0 : Tn 225 ep := by rw [← e0]; exact (tn_pub he (by omega)).mono (by omega)
  have t1 : Tn 269 cA := by rw [← e1]; exact (tn_begC t0 (by omega)).mono (by omega)
  have t2 : Tn 520 hA := by rw [← e2]; exact (tn_begH (tn_pub hr (by omega)) t0 (by omega)).mono (by omega)
  have t3 : Tn 426 uA := by rw [← e3]; exact (tn_agree he hr (by omega)).mono (by omega)
  have t4 : Tn 721 kA := by rw [← e4]; exact (tn_kdf 2 (by omega) t1 t3 (by omega)).mono (by omega)
  have t5 : Tn 721 cB := by rw [← e5]; exact (tn_kdf 1 (by omega) t1 t3 (by omega)).mono (by omega)
  have t6 : Tn 225 ps := by rw [← e6]; exact (tn_pub hs (by omega)).mono (by omega)
  have t7 : Tn 1493 sA := by rw [← e7]; exact (tn_seal 0 (by omega) t4 t6 t2 (by omega)).mono (by omega)
  have t8 : Tn 2039 hB := by rw [← e8]; exact (tn_two 7 (.inr (.inl rfl)) t2 t7 (by omega)).mono (by omega)
  have t9 : Tn 426 uB := by rw [← e9]; exact (tn_agree hs hr (by omega)).mono (by omega)
  have t10 : Tn 1173 kB := by rw [← e10]; exact (tn_kdf 2 (by omega) t5 t9 (by omega)).mono (by omega)
  have t11 : Tn 1173 cC := by rw [← e11]; exact (tn_kdf 1 (by omega) t5 t9 (by omega)).mono (by omega)
  have t12 : Tn 21 nb := by rw [← e12]; exact tn_num n hn
  have t13 : Tn 3260 sB := by rw [← e13]; exact (tn_seal 0 (by omega) t10 t12 t8 (by omega)).mono (by omega)
  have t14 : Tn 5325 hC := by rw [← e14]; exact (tn_two 7 (.inr (.inl rfl)) t8 t13 (by omega)).mono (by omega)
  exact ⟨t0, t1, t2, t3, t4, t5, t6, t7, t8, t9, t10, t11, t12, t13, t14⟩
/-- The Init as a message. -/
def begM (sd : Nat) (ep sA sB : ByteArray) : Mg := ⟨1, sd, 0, 0, ep, sA, sB, noT, noT, noT, noT, ⟨#[48]⟩, ⟨#[48]⟩⟩
theorem begin_made (b : BegT ep cA hA uA kA cB ps sA hB uB kB cC nb sB hC) : madeB [ep, sA, sB, cC, hC] = true :=
  made_all (by
    intro p hp
    simp only [List.mem_cons, List.not_mem_nil, or_false] at hp
    rcases hp with rfl | rfl | rfl | rfl | rfl
    · exact b.ep.ne
    · exact b.sA.ne
    · exact b.sB.ne
    · exact b.cC.ne
    · exact b.hC.ne)
theorem begin_right (b : BegT ep cA hA uA kA cB ps sA hB uB kB cC nb sB hC) : rightM (begM sd ep sA sB) = true := by
  have h2 : eqM (onlyM (begM sd ep sA sB)) (begM sd ep sA sB) = true := (eqM_iff _ _).2 rfl
  have ht : textsM (begM sd ep sA sB) = [ep, sA, sB, ⟨#[48]⟩, ⟨#[48]⟩] := rfl
  have hk : decide (1 ≤ (begM sd ep sA sB).k ∧ (begM sd ep sA sB).k ≤ 4) = true := rfl
  unfold rightM
  rw [h2, ht, hk]
  have f1 := fit_tn b.ep (by omega)
  have f2 := fit_tn b.sA (by omega)
  have f3 := fit_tn b.sB (by omega)
  have f4 := fit_tn tn_zeroT (by omega)
  simp only [List.all_cons, List.all_nil, f1, f2, f3, f4]
  rfl
end
end
section
open Go.RowKit Go.Deep

/-- The Response as a message. -/
def ansM (sn r : Nat) (ep em : ByteArray) : Mg := ⟨2, sn, r, 0, ep, noT, noT, em, noT, noT, noT, ⟨#[48]⟩, ⟨#[48]⟩⟩
section
variable {c h x4 u v q : ByteArray} {ac ah a4 au av aq : Nat}
theorem tn_endC (hc : Tn ac c) (h4 : Tn a4 x4) (hu : Tn au u) (hv : Tn av v) (hs : ac + a4 + au + av ≤ 50000) : Tn (ac + a4 + 26 + au + 26 + av + 26) (endC c x4 u v) :=
  tn_kdf 1 (by omega) (tn_kdf 1 (by omega) (tn_kdf 1 (by omega) hc h4 (by omega)) hu (by omega)) hv (by omega)
theorem tn_endA (hc : Tn ac c) (h4 : Tn a4 x4) (hu : Tn au u) (hv : Tn av v) (hq : Tn aq q) (hs : ac + a4 + au + av + aq ≤ 50000) : Tn (ac + a4 + 26 + au + 26 + av + 26 + aq + 26) (endA c x4 u v q) :=
  tn_kdf 1 (by omega) (tn_endC hc h4 hu hv (by omega)) hq (by omega)
theorem tn_endK (hc : Tn ac c) (h4 : Tn a4 x4) (hu : Tn au u) (hv : Tn av v) (hq : Tn aq q) (hs : ac + a4 + au + av + aq ≤ 50000) : Tn (ac + a4 + 26 + au + 26 + av + 26 + aq + 26) (endK c x4 u v q) :=
  tn_kdf 3 (by omega) (tn_endC hc h4 hu hv (by omega)) hq (by omega)
theorem tn_endW (hc : Tn ac c) (hh : Tn ah h) (h4 : Tn a4 x4) (hu : Tn au u) (hv : Tn av v) (hq : Tn aq q) (hs : ac + a4 + au + av + aq + ah + a4 ≤ 50000) : Tn (ah + a4 + 26 + (ac + a4 + 26 + au + 26 + av + 26 + aq + 26) + 26) (endW c h x4 u v q) :=
  tn_two 7 (.inr (.inl rfl)) (tn_two 7 (.inr (.inl rfl)) hh h4 (by omega)) (tn_kdf 2 (by omega) (tn_endC hc h4 hu hv (by omega)) hq (by omega)) (by omega)
/-- The keys of both ends are terms, and not the same. -/
theorem keys_differ {a : Nat} {la : ByteArray} (h : Tn a la) (ha : a ≤ 50000) : Tn (a + 27) (kdfT 1 la ⟨#[48]⟩) ∧ Tn (a + 27) (kdfT 2 la ⟨#[48]⟩) ∧ kdfT 2 la ⟨#[48]⟩ ≠ kdfT 1 la ⟨#[48]⟩ := by
  refine ⟨tn_kdf 1 (by omega) h tn_zeroT (by omega), tn_kdf 2 (by omega) h tn_zeroT (by omega), fun e => ?_⟩
  have := (kdf_inj (by omega) (by omega) h tn_zeroT (by omega) e).1
  omega
end
/-- What the end of an exchange makes, part by part. -/
structure EndE (c h ep uA uB q la ke wi em ka kb : ByteArray) : Prop where
  e1 : endA c ep uA uB q = la
  e2 : endK c ep uA uB q = ke
  e3 : endW c h ep uA uB q = wi
  e4 : sealN ke ⟨#[48]⟩ wi = em
  e5 : kdfT 2 la ⟨#[48]⟩ = ka
  e6 : kdfT 1 la ⟨#[48]⟩ = kb
structure EndT (la ke wi em ka kb : ByteArray) : Prop where
  tla : Tn 20000 la
  tke : Tn 20000 ke
  twi : Tn 30000 wi
  tem : Tn 55000 em
  tka : Tn 20027 ka
  tkb : Tn 20027 kb
  tne : ka ≠ kb
section
variable {p x4 c h f q ep uA uB la ke wi em ka kb : ByteArray} {ac ah a4 au av : Nat}
theorem EndE.sizes (E : EndE c h ep uA uB q la ke wi em ka kb) (hc : Tn ac c) (hh : Tn ah h) (h4 : Tn a4 ep) (hu : Tn au uA) (hv : Tn av uB) (hq : Tn 200 q) (hs : ac + 2 * a4 + au + av + ah ≤ 19000) : EndT la ke wi em ka kb := by
  obtain ⟨e1, e2, e3, e4, e5, e6⟩ := E
  have t1 : Tn 20000 la := by rw [← e1]; exact (tn_endA hc h4 hu hv hq (by omega)).mono (by omega)
  have t2 : Tn 20000 ke := by rw [← e2]; exact (tn_endK hc h4 hu hv hq (by omega)).mono (by omega)
  have t3 : Tn 30000 wi := by rw [← e3]; exact (tn_endW hc hh h4 hu hv hq (by omega)).mono (by omega)
  have t4 : Tn 55000 em := by rw [← e4]; exact (tn_seal 0 (by omega) t2 tn_zeroT t3 (by omega)).mono (by omega)
  obtain ⟨t5, t6, t7⟩ := keys_differ t1 (by omega)
  rw [e5] at t6 t7
  rw [e6] at t5 t7
  exact ⟨t1, t2, t3, t4, t6, t5, t7⟩
end
section
variable {ep c h s q : ByteArray} {sd : Nat} {m : Mg}
/-- What Finish tells where nothing is wrong with the form. -/
theorem fin_is {a0 ac ah ag : Nat} {uA uB la ke wi em ka kb : ByteArray} (E : EndE c h m.x4 uA uB q la ke wi em ka kb) (T : EndT la ke wi em ka kb) (e1 : agreeT ep m.x4 = uA) (e2 : agreeT s m.x4 = uB) (hep : Tn a0 ep) (hc : Tn ac c) (hh : Tn ah h) (hs : Tn ag s) (hq : Tn 200 q) (hr : rightM m = true) (hk : m.k = 2) (hx : kindT m.x4 = 5) :
    finV ep c h s q sd m = if m.r ≠ sd then (6, ByteArray.empty, ByteArray.empty) else if m.x7 ≠ em then (8, ByteArray.empty, ByteArray.empty) else (0, kb, ka) := by
  have g1 : termsB [s, q, ep, c, h] = true := termsB_yes (by
    intro y hy
    simp only [List.mem_cons, List.not_mem_nil, or_false] at hy
    rcases hy with rfl | rfl | rfl | rfl | rfl
    · exact hs.1
    · exact hq.1
    · exact hep.1
    · exact hc.1
    · exact hh.1)
  have g3 : pubsB [m.x4] = true := by rw [pubs_one, hx]; rfl
  have g4 : madeB [kb, ka] = true := made_all (by
    intro y hy
    simp only [List.mem_cons, List.not_mem_nil, or_false] at hy
    rcases hy with rfl | rfl
    · exact T.tkb.ne
    · exact T.tka.ne)
  have hg : ¬ (termsB [s, q, ep, c, h] = false ∨ rightM m = false ∨ m.k ≠ 2 ∨ pubsB [m.x4] = false) := by
    rw [g1, hr, g3, hk]
    simp
  have hop : openT em ke 0 wi = (⟨#[48]⟩, 0) := by
    rw [← E.e4, open_seal T.tke tn_zeroT T.twi (by omega), if_pos ⟨rfl, rfl⟩]
  unfold finV
  simp only [e1, e2, E.e1, E.e2, E.e3, E.e5, E.e6]
  rw [if_neg hg, g4]
  by_cases hn : m.r ≠ sd
  · rw [if_pos hn, if_pos hn]
  · rw [if_neg hn, if_neg hn]
    by_cases he : m.x7 ≠ em
    · rw [if_pos he, if_pos]
      by_cases h2 : (openT m.x7 ke 0 wi).2 ≠ 0
      · exact .inl h2
      · refine .inr fun h3 => he ?_
        have h4 : openT m.x7 ke 0 wi = (⟨#[48]⟩, 0) := Prod.ext h3 (Decidable.not_not.1 h2)
        rw [(open_back h4).1, E.e4]
    · rw [if_neg he, Decidable.not_not.1 he, hop, if_neg, if_neg]
      · decide
      · simp
end
theorem ans_right {sn r : Nat} {ep em : ByteArray} {n1 n2 : Nat} (h1 : Tn n1 ep) (h2 : Tn n2 em) (hn1 : n1 ≤ 65535) (hn2 : n2 ≤ 65535) : rightM (ansM sn r ep em) = true := by
  have h0 : eqM (onlyM (ansM sn r ep em)) (ansM sn r ep em) = true := (eqM_iff _ _).2 rfl
  have ht : textsM (ansM sn r ep em) = [ep, em, ⟨#[48]⟩, ⟨#[48]⟩] := rfl
  have hk : decide (1 ≤ (ansM sn r ep em).k ∧ (ansM sn r ep em).k ≤ 4) = true := rfl
  unfold rightM
  rw [h0, ht, hk]
  have f1 := fit_tn h1 hn1
  have f2 := fit_tn h2 hn2
  have f4 := fit_tn tn_zeroT (by omega)
  simp only [List.all_cons, List.all_nil, f1, f2, f4]
  rfl
end
section
open Go.RowKit Go.Deep

/-- A play of both: secrets, what is shared, and all that is made. -/
structure Play (s e r f q : ByteArray) (n : Nat) (ep cA hA uA kA cB ps sA hB uB kB cC nb sB hC ep2 uA2 uB2 la ke wi em ka kb : ByteArray) : Prop where
  B : BegE s e (pubT r) n ep cA hA uA kA cB ps sA hB uB kB cC nb sB hC
  ts : Tn 200 s
  te : Tn 200 e
  tr : Tn 200 r
  tf : Tn 200 f
  tq : Tn 200 q
  hn : n < 18446744073709551616
  E : EndE cC hC ep2 uA2 uB2 q la ke wi em ka kb
  f0 : pubT f = ep2
  f1 : agreeT f ep = uA2
  f2 : agreeT f ps = uB2
section
variable {s e r f q : ByteArray} {n sd tu : Nat} {ep cA hA uA kA cB ps sA hB uB kB cC nb sB hC ep2 uA2 uB2 la ke wi em ka kb : ByteArray} (P : Play s e r f q n ep cA hA uA kA cB ps sA hB uB kB cC nb sB hC ep2 uA2 uB2 la ke wi em ka kb)
include P
theorem Play.sizes : BegT ep cA hA uA kA cB ps sA hB uB kB cC nb sB hC := P.B.sizes P.ts P.te P.tr P.hn
theorem Play.tep2 : Tn 225 ep2 := by rw [← P.f0]; exact (tn_pub P.tf (by omega)).mono (by omega)
theorem Play.tuA2 : Tn 426 uA2 := by rw [← P.f1, ← P.B.e0]; exact (tn_agree P.tf P.te (by omega)).mono (by omega)
theorem Play.tuB2 : Tn 426 uB2 := by rw [← P.f2, ← P.B.e6]; exact (tn_agree P.tf P.ts (by omega)).mono (by omega)
theorem Play.ends : EndT la ke wi em ka kb := P.E.sizes P.sizes.cC P.sizes.hC P.tep2 P.tuA2 P.tuB2 P.tq (by omega)
theorem Play.a1 : agreeT e ep2 = uA2 := by rw [← P.f0, agree_swap P.te P.tf (by omega) (by omega), P.B.e0, P.f1]
theorem Play.a2 : agreeT s ep2 = uB2 := by rw [← P.f0, agree_swap P.ts P.tf (by omega) (by omega), P.B.e6, P.f2]
theorem Play.kp : kindT ps = 5 := by rw [← P.B.e6]; exact pub_kind P.ts (by omega)
theorem Play.k2 : kindT ep2 = 5 := by rw [← P.f0]; exact pub_kind P.tf (by omega)
theorem Play.right {tu' sd' : Nat} : rightM (ansM tu' sd' ep2 em) = true := ans_right P.tep2 P.ends.tem (by omega) (by omega)
theorem Play.same : finV e cC hC s q sd (ansM tu sd ep2 em) = (0, kb, ka) := by
  rw [fin_is (m := ansM tu sd ep2 em) P.E P.ends P.a1 P.a2 P.te P.sizes.cC P.sizes.hC P.ts P.tq P.right rfl P.k2, if_neg (fun h => h rfl), if_neg (fun h => h rfl)]
theorem Play.none {sd' : Nat} (h : sd' ≠ sd) : finV e cC hC s q sd (ansM tu sd' ep2 em) = (6, ByteArray.empty, ByteArray.empty) := by
  rw [fin_is (m := ansM tu sd' ep2 em) P.E P.ends P.a1 P.a2 P.te P.sizes.cC P.sizes.hC P.ts P.tq P.right rfl P.k2, if_pos (show (ansM tu sd' ep2 em).r ≠ sd from h)]
end
end
end Go.Proofs.YtcokjoidpnfjhaaGreatDoor

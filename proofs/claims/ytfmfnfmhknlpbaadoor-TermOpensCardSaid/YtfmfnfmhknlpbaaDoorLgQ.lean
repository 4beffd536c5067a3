/-
  The law TermAgrees, by walking. Condition: the library's table of powers of ten reads as it was laid.
-/
import Derived.Test.YtfmfnfmhknlpbaaDoorLmQ
namespace Go.Proofs.YtfmfnfmhknlpbaaDoor
open Go.RowKit Go.Deep

theorem pub_read {x : ByteArray} (hs : x.size ≤ 1000) (h : (parseV x).isSome = true) : makeV 5 0 [] [x] ≠ ByteArray.empty ∧ parseV (makeV 5 0 [] [x]) = some (5, 0, [], [x]) := by
  have hlen : (txtL 5 0 [] [x]).length = x.size + 3 := by
    unfold txtL
    rw [if_neg (by omega), if_neg (by omega), if_neg (by omega)]
    simp [joinL, numberedV]
  have hne : makeV 5 0 [] [x] ≠ ByteArray.empty := by
    have e : makeV 5 0 [] [x] = bytesOf (txtL 5 0 [] (sortV 5 [x])) := if_pos ⟨by omega, by omega, (fun h => by cases h), (show fitsV 5 1 = true by decide), by simpa using h, by rw [sort_not6 (by omega)]; omega⟩
    rw [e]
    exact bytes_ne (txt_ne _ _ _ _)
  have hr := make_read (by decide) hne
  rw [sort_not6 (by omega)] at hr
  exact ⟨hne, hr⟩
theorem pub_none {x : ByteArray} (h : (parseV x).isSome = false) : makeV 5 0 [] [x] = ByteArray.empty := make_no (by
  rintro ⟨_, _, _, _, hp, _⟩
  have := hp x (by simp)
  rw [h] at this
  exact Bool.noConfusion this)
theorem dh_none {x y : ByteArray} (h : (parseV x).isSome = false) : makeV 6 0 [] [x, y] = ByteArray.empty := make_no (by
  rintro ⟨_, _, _, _, hp, _⟩
  have := hp x (by simp)
  rw [h] at this
  exact Bool.noConfusion this)
theorem dh_read {x y : ByteArray} (hx : x.size ≤ 1000) (hy : y.size ≤ 1000) (h : (parseV x).isSome = true) (h2 : (parseV y).isSome = true) : makeV 6 0 [] [x, y] ≠ ByteArray.empty ∧ parseV (makeV 6 0 [] [x, y]) = some (6, 0, [], sortV 6 [x, y]) := by
  have hj : (joinL (sortV 6 [x, y])).length = x.size + y.size + 1 := by
    have h1 := sum_sort 6 [x, y]
    have h2 := join_sum (sortV 6 [x, y]) (fun e => by have := sort_len 6 [x, y]; rw [e] at this; simp at this)
    simp only [sumL] at h1
    omega
  have hlen : (txtL 6 0 [] (sortV 6 [x, y])).length = x.size + y.size + 4 := by
    unfold txtL
    rw [if_neg (by omega), if_neg (by omega), if_neg (by omega)]
    simp [numberedV]
    omega
  have hne : makeV 6 0 [] [x, y] ≠ ByteArray.empty := by
    have e : makeV 6 0 [] [x, y] = bytesOf (txtL 6 0 [] (sortV 6 [x, y])) := if_pos ⟨by omega, by omega, (fun h => by cases h), (show fitsV 6 2 = true by decide), (by intro p hp; simp at hp; rcases hp with rfl | rfl <;> assumption), by omega⟩
    rw [e]
    exact bytes_ne (txt_ne _ _ _ _)
  exact ⟨hne, make_read (by decide) hne⟩
theorem agree_pub {x y : ByteArray} (hy : y.size ≤ 1000) (h : (parseV y).isSome = true) : agreeT x (makeV 5 0 [] [y]) = makeV 6 0 [] [x, y] := by
  unfold agreeT
  rw [(pub_read hy h).2]
  rfl
theorem agree_none {x y : ByteArray} (hy : y.size ≤ 1000) (h : (parseV x).isSome = false ∨ (parseV y).isSome = false) : agreeT x (makeV 5 0 [] [y]) = ByteArray.empty := by
  cases hq : (parseV y).isSome with
  | false =>
    rw [pub_none hq]
    rfl
  | true =>
    rw [agree_pub hy hq]
    rcases h with h | h
    · exact dh_none h
    · rw [hq] at h; cases h
theorem pub_size (x : ByteArray) : (makeV 5 0 [] [x]).size ≤ maxLen := by
  by_cases h : makeV 5 0 [] [x] = ByteArray.empty
  · rw [h]; exact Nat.zero_le _
  · have := make_size (by decide) h; unfold maxLen; omega
theorem toList_no {a b : ByteArray} (h : a ≠ b) : (a.toList == b.toList) = false := eqB_no.2 h

set_option maxRecDepth 100000 in
set_option maxHeartbeats 12800000 in
theorem agrees_long (x y z : ByteArray) (hs : x.size ≤ maxLen ∧ y.size ≤ maxLen ∧ z.size ≤ maxLen) (hl : 1000 < x.size ∨ 1000 < y.size ∨ 1000 < z.size) (w : World) (htab : Tab w) :
    Calls Tryd.prog 3 #[.string x, .string y, .string z] w fun e w' => e = .returned (.bool true) ∧ Only [] w w' := by
  have hx : ((1000 : Int) < x.size) ∨ (¬ (1000 : Int) < x.size ∧ (1000 : Int) < y.size) ∨ (¬ (1000 : Int) < x.size ∧ ¬ (1000 : Int) < y.size ∧ (1000 : Int) < z.size) := by omega
  obtain ⟨h1, h2, h3⟩ := hs
  unfold maxLen at h1 h2 h3
  have HT := hide htab
  clear htab hl
  rcases hx with hx | ⟨hx, hy⟩ | ⟨hx, hy, hz⟩
  all_goals
    go_enter Tryd.func3, Tryd.ntmps3
    go_wp2_with (first
      | (go_at_call 10; refine (awake02 _ HT.out).mono ?_; rintro e w1 ⟨rfl, ho⟩; have HC := hide ho; clear ho))
    go_ret
    exact ⟨rfl, HC.out⟩

set_option maxRecDepth 100000 in
set_option maxHeartbeats 12800000 in
theorem agrees_none (x y z : ByteArray) (hx : x.size ≤ 1000) (hy : y.size ≤ 1000) (hz : z.size ≤ 1000) (hno : (parseV x).isSome = false ∨ (parseV y).isSome = false) (w : World) (htab : Tab w) :
    Calls Tryd.prog 3 #[.string x, .string y, .string z] w fun e w' => e = .returned (.bool true) ∧ Only [] w w' := by
  have hx1 : ¬ (1000 : Int) < x.size := by omega
  have hy1 : ¬ (1000 : Int) < y.size := by omega
  have hz1 : ¬ (1000 : Int) < z.size := by omega
  have HX := hide (show x.size ≤ maxLen by unfold maxLen; omega)
  have HY := hide (show y.size ≤ maxLen by unfold maxLen; omega)
  have HZ := hide (show z.size ≤ maxLen by unfold maxLen; omega)
  have HIX := hide (fun W => isR_all W x HX.out)
  have HIY := hide (fun W => isR_all W y HY.out)
  have HIZ := hide (fun W => isR_all W z HZ.out)
  unfold RetB at HIX HIY HIZ
  have hqs := pub_size y
  have hps := pub_size x
  have hrs := pub_size z
  have HAG := hide (fun W ht => Agree_any W x (makeV 5 0 [] [y]) HX.out hqs ht)
  unfold MakePost at HAG
  rw [agree_none hy hno] at HAG
  have hpe : (makeV 5 0 [] [x]).toList.isEmpty = !(parseV x).isSome := by
    cases h : (parseV x).isSome with
    | true => exact empty_no (pub_read hx h).1
    | false => rw [pub_none h]; exact empty_yes
  have hqe : (makeV 5 0 [] [y]).toList.isEmpty = !(parseV y).isSome := by
    cases h : (parseV y).isSome with
    | true => exact empty_no (pub_read hy h).1
    | false => rw [pub_none h]; exact empty_yes
  obtain ⟨P, hP⟩ : ∃ P, makeV 5 0 [] [x] = P := ⟨_, rfl⟩
  obtain ⟨Q, hQ⟩ : ∃ Q, makeV 5 0 [] [y] = Q := ⟨_, rfl⟩
  have HPX := hide hP
  have HPY := hide hQ
  rw [hP] at hpe
  rw [hQ] at hqe HAG
  have HPZ := HPX
  have HT := hide htab
  clear htab hps hqs hrs hP hQ hx hy hz
  generalize (parseV x).isSome = bx at *
  generalize (parseV y).isSome = bq at *
  cases bx
  all_goals
    cases bq
    all_goals first
      | (exfalso; revert hno; decide)
      | (clear hno
         simp only [Bool.not_true, Bool.not_false] at hpe hqe
         go_enter Tryd.func3, Tryd.ntmps3
         go_wp2_with (first
           | (go_at_call 10; refine (awake02 _ HT.out).mono ?_; rintro e w1 ⟨rfl, ho⟩; have HC := hide ho; clear ho)
           | (go_at_call 11; refine (make_new1 _ (HT.out.only HC.out (by simp)) _ (by simp) 5 (by decide) 0 (by decide) _ (by first | exact HX.out | exact HY.out | exact HZ.out)).mono ?_; rintro e w2 ⟨rfl, ho⟩; (first | rw [HPX.out] | rw [HPY.out] | rw [HPZ.out]); have HC := hide (HC.out.trans ho); clear ho)
           | (go_at_call 12; (with_reducible refine (HIX.out _).mono ?_); rintro e w3 ⟨rfl, ho⟩; have HC := hide (HC.out.trans ho); clear ho)
           | (go_at_call 12; (with_reducible refine (HIY.out _).mono ?_); rintro e w3 ⟨rfl, ho⟩; have HC := hide (HC.out.trans ho); clear ho)
           | (go_at_call 13; (with_reducible refine (HAG.out _ (HT.out.only HC.out (by simp))).mono ?_); rintro e w4 ⟨rfl, ho⟩; have HC := hide (HC.out.trans ho); clear ho))
         go_ret
         exact ⟨rfl, HC.out⟩)

set_option maxRecDepth 100000 in
set_option maxHeartbeats 12800000 in
theorem agrees_both (x y z : ByteArray) (hx : x.size ≤ 1000) (hy : y.size ≤ 1000) (hz : z.size ≤ 1000) (hbx : (parseV x).isSome = true) (hby : (parseV y).isSome = true) (w : World) (htab : Tab w) :
    Calls Tryd.prog 3 #[.string x, .string y, .string z] w fun e w' => e = .returned (.bool true) ∧ Only [] w w' := by
  have hx1 : ¬ (1000 : Int) < x.size := by omega
  have hy1 : ¬ (1000 : Int) < y.size := by omega
  have hz1 : ¬ (1000 : Int) < z.size := by omega
  have HX := hide (show x.size ≤ maxLen by unfold maxLen; omega)
  have HY := hide (show y.size ≤ maxLen by unfold maxLen; omega)
  have HZ := hide (show z.size ≤ maxLen by unfold maxLen; omega)
  have HIX := hide (fun W => isR_all W x HX.out)
  have HIY := hide (fun W => isR_all W y HY.out)
  have HIZ := hide (fun W => isR_all W z HZ.out)
  unfold RetB at HIX HIY HIZ
  have hqs := pub_size y
  have hps := pub_size x
  have hrs := pub_size z
  have HAG := hide (fun W ht => Agree_any W x (makeV 5 0 [] [y]) HX.out hqs ht)
  unfold MakePost at HAG
  have HAP := hide (fun W ht => Agree_any W y (makeV 5 0 [] [x]) HY.out hps ht)
  have HAZ := hide (fun W ht => Agree_any W x (makeV 5 0 [] [z]) HX.out hrs ht)
  have HPU := hide (fun W => PubR_any W y HY.out)
  have HAR := hide (fun W => AgreeR_any W x (makeV 5 0 [] [y]) HX.out hqs)
  have hds := make_size (by decide) (dh_read hx hy hbx hby).1
  have HKD := hide (fun W => Kind_any W (makeV 6 0 [] [x, y]) (by unfold maxLen; omega))
  unfold MakePost at HAP HAZ HPU HAR
  unfold KindPost at HKD
  rw [agree_pub hx hbx, make_swap] at HAP
  rw [agree_pub hy hby] at HAG HAR
  rw [show kindT (makeV 6 0 [] [x, y]) = 6 by unfold kindT; rw [(dh_read hx hy hbx hby).2]] at HKD
  rw [hbx] at HIX
  rw [hby] at HIY
  have HT := hide htab
  have hdd : ((makeV 6 0 [] [x, y]).toList == (makeV 6 0 [] [x, y]).toList) = true := by simp
  have key : (parseV z).isSome = true → agreeT x (makeV 5 0 [] [z]) = makeV 6 0 [] [x, z] ∧ (((makeV 6 0 [] [x, z]).toList == (makeV 6 0 [] [x, y]).toList) = (z.toList == y.toList)) := by
    intro hbz
    refine ⟨agree_pub hz hbz, ?_⟩
    by_cases he : z = y
    · subst he; simp
    · rw [toList_no he]
      refine toList_no fun h => he ?_
      have h1 := (dh_read hx hz hbx hbz).2
      rw [h, (dh_read hx hy hbx hby).2] at h1
      simp only [Option.some.injEq, Prod.mk.injEq, true_and] at h1
      exact sort_inj h1.symm
  obtain ⟨P, hP⟩ : ∃ P, makeV 5 0 [] [x] = P := ⟨_, rfl⟩
  obtain ⟨Q, hQ⟩ : ∃ Q, makeV 5 0 [] [y] = Q := ⟨_, rfl⟩
  obtain ⟨R, hR⟩ : ∃ R, makeV 5 0 [] [z] = R := ⟨_, rfl⟩
  obtain ⟨D, hD⟩ : ∃ D, makeV 6 0 [] [x, y] = D := ⟨_, rfl⟩
  rw [hP] at HAP
  rw [hQ] at HAG HPU HAR
  rw [hR] at HAZ key
  rw [hD] at HAP HAG HAR HKD hdd key
  have HPX := hide hP
  have HPY := hide hQ
  have HPZ := hide hR
  cases hbz : (parseV z).isSome with
  | false =>
    rw [hbz] at HIZ
    clear htab hps hqs hrs hP hQ hR hD hx hy hz hbx hby hbz key hds
    go_enter Tryd.func3, Tryd.ntmps3
    go_wp2_with (first
      | (go_at_call 10; refine (awake02 _ HT.out).mono ?_; rintro e w1 ⟨rfl, ho⟩; have HC := hide ho; clear ho)
      | (go_at_call 11; refine (make_new1 _ (HT.out.only HC.out (by simp)) _ (by simp) 5 (by decide) 0 (by decide) _ (by first | exact HX.out | exact HY.out | exact HZ.out)).mono ?_; rintro e w2 ⟨rfl, ho⟩; (first | rw [HPX.out] | rw [HPY.out] | rw [HPZ.out]); have HC := hide (HC.out.trans ho); clear ho)
      | (go_at_call 12; (with_reducible refine (HIX.out _).mono ?_); rintro e w3 ⟨rfl, ho⟩; have HC := hide (HC.out.trans ho); clear ho)
      | (go_at_call 12; (with_reducible refine (HIY.out _).mono ?_); rintro e w3 ⟨rfl, ho⟩; have HC := hide (HC.out.trans ho); clear ho)
      | (go_at_call 12; (with_reducible refine (HIZ.out _).mono ?_); rintro e w3 ⟨rfl, ho⟩; have HC := hide (HC.out.trans ho); clear ho)
      | (go_at_call 13; (with_reducible refine (HAG.out _ (HT.out.only HC.out (by simp))).mono ?_); rintro e w4 ⟨rfl, ho⟩; have HC := hide (HC.out.trans ho); clear ho)
      | (go_at_call 13; (with_reducible refine (HAP.out _ (HT.out.only HC.out (by simp))).mono ?_); rintro e w4 ⟨rfl, ho⟩; have HC := hide (HC.out.trans ho); clear ho)
      | (go_at_call 13; (with_reducible refine (HAZ.out _ (HT.out.only HC.out (by simp))).mono ?_); rintro e w4 ⟨rfl, ho⟩; have HC := hide (HC.out.trans ho); clear ho)
      | (go_at_call 15; refine (HPU.out _).mono ?_; rintro e w5 ⟨rfl, ho⟩; have HC := hide (HC.out.trans ho); clear ho)
      | (go_at_call 14; refine (HAR.out _).mono ?_; rintro e w6 ⟨rfl, ho⟩; have HC := hide (HC.out.trans ho); clear ho)
      | (go_at_call 16; refine (HKD.out _).mono ?_; rintro e w7 ⟨rfl, ho⟩; have HC := hide (HC.out.trans ho); clear ho))
    go_ret
    exact ⟨rfl, HC.out⟩
  | true =>
    rw [hbz] at HIZ
    obtain ⟨k1, k2⟩ := key hbz
    rw [k1] at HAZ
    obtain ⟨E, hE⟩ : ∃ E, makeV 6 0 [] [x, z] = E := ⟨_, rfl⟩
    rw [hE] at HAZ k2
    rcases Bool.eq_false_or_eq_true (z.toList == y.toList) with hzy | hzy
    all_goals
      rw [hzy] at k2
      clear k1
      go_enter Tryd.func3, Tryd.ntmps3
      go_wp2_with (first
        | (go_at_call 10; refine (awake02 _ HT.out).mono ?_; rintro e w1 ⟨rfl, ho⟩; have HC := hide ho; clear ho)
        | (go_at_call 11; refine (make_new1 _ (HT.out.only HC.out (by simp)) _ (by simp) 5 (by decide) 0 (by decide) _ (by first | exact HX.out | exact HY.out | exact HZ.out)).mono ?_; rintro e w2 ⟨rfl, ho⟩; (first | rw [HPX.out] | rw [HPY.out] | rw [HPZ.out]); have HC := hide (HC.out.trans ho); clear ho)
        | (go_at_call 12; (with_reducible refine (HIX.out _).mono ?_); rintro e w3 ⟨rfl, ho⟩; have HC := hide (HC.out.trans ho); clear ho)
        | (go_at_call 12; (with_reducible refine (HIY.out _).mono ?_); rintro e w3 ⟨rfl, ho⟩; have HC := hide (HC.out.trans ho); clear ho)
        | (go_at_call 12; (with_reducible refine (HIZ.out _).mono ?_); rintro e w3 ⟨rfl, ho⟩; have HC := hide (HC.out.trans ho); clear ho)
        | (go_at_call 13; (with_reducible refine (HAG.out _ (HT.out.only HC.out (by simp))).mono ?_); rintro e w4 ⟨rfl, ho⟩; have HC := hide (HC.out.trans ho); clear ho)
        | (go_at_call 13; (with_reducible refine (HAP.out _ (HT.out.only HC.out (by simp))).mono ?_); rintro e w4 ⟨rfl, ho⟩; have HC := hide (HC.out.trans ho); clear ho)
        | (go_at_call 13; (with_reducible refine (HAZ.out _ (HT.out.only HC.out (by simp))).mono ?_); rintro e w4 ⟨rfl, ho⟩; have HC := hide (HC.out.trans ho); clear ho)
        | (go_at_call 15; refine (HPU.out _).mono ?_; rintro e w5 ⟨rfl, ho⟩; have HC := hide (HC.out.trans ho); clear ho)
        | (go_at_call 14; refine (HAR.out _).mono ?_; rintro e w6 ⟨rfl, ho⟩; have HC := hide (HC.out.trans ho); clear ho)
        | (go_at_call 16; refine (HKD.out _).mono ?_; rintro e w7 ⟨rfl, ho⟩; have HC := hide (HC.out.trans ho); clear ho))
      go_ret
      exact ⟨rfl, HC.out⟩

theorem termAgrees_walk (x : ByteArray) (hx : x.size ≤ maxLen) (y : ByteArray) (hy : y.size ≤ maxLen) (z : ByteArray) (hz : z.size ≤ maxLen) (w : World) (htab : Tab w) :
    Calls Tryd.prog 3 #[.string x, .string y, .string z] w fun e w' => e = .returned (.bool true) ∧ Only [] w w' := by
  by_cases h : 1000 < x.size ∨ 1000 < y.size ∨ 1000 < z.size
  · exact agrees_long x y z ⟨hx, hy, hz⟩ h w htab
  · by_cases h2 : (parseV x).isSome = true ∧ (parseV y).isSome = true
    · exact agrees_both x y z (by omega) (by omega) (by omega) h2.1 h2.2 w htab
    · refine agrees_none x y z (by omega) (by omega) (by omega) ?_ w htab
      cases h3 : (parseV x).isSome with
      | false => exact .inl rfl
      | true =>
        cases h4 : (parseV y).isSome with
        | false => exact .inr rfl
        | true => exact absurd ⟨h3, h4⟩ h2
end Go.Proofs.YtfmfnfmhknlpbaaDoor

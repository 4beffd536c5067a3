/-
  Walks and plain words (texts Rfl). No condition beyond those that each theorem states.
-/
import Derived.Test.YthecnaclfhfilaaDoorA12
import Derived.Test.YthecnaclfhfilaaDoorA13
namespace Go.Proofs.YthecnaclfhfilaaDoor
section
open Go.RowKit Go.Deep

theorem undrew {S : List Nat} {w w' : World} (h : Only S w.drew w') : Only S w w' := ⟨h.os, h.tape, h.output, h.size, h.block⟩
theorem idx_some {c : UInt8} : ∀ {L : List UInt8} {k : Nat} (hk : k < L.length), (∀ b ∈ L.take k, ¬ b = c) → L[k] = c → Lib.indexByte L c = (k : Int)
  | b :: l, 0, _, _, h => by
    simp only [List.getElem_cons_zero] at h
    unfold Lib.indexByte
    rw [if_pos (by simpa using h)]
    rfl
  | b :: l, k + 1, hk, h, hc => by
    have hb := h b (by simp)
    have ih := idx_some (L := l) (k := k) (by simpa using hk) (fun x hx => h x (by simp [hx])) (by simpa using hc)
    unfold Lib.indexByte
    rw [if_neg (by simpa using hb), ih, if_neg (by simp)]
    omega
theorem idx_none {c : UInt8} : ∀ {L : List UInt8}, (∀ b ∈ L, ¬ b = c) → Lib.indexByte L c < 0
  | [], _ => by simp [Lib.indexByte]
  | b :: l, h => by
    have hb := h b (by simp)
    have ih := idx_none (L := l) (c := c) (fun x hx => h x (by simp [hx]))
    have hge := Lib.indexByte_ge l c
    have h1 : Lib.indexByte l c = -1 := by omega
    unfold Lib.indexByte
    rw [if_neg (by simpa using hb), h1]
    decide
theorem no_more {c : UInt8} {L : List UInt8} {k : Nat} (hk : k < L.length) (h : ∀ b ∈ L.take k, ¬ b = c) (hc : ¬ L[k] = c) : ∀ b ∈ L.take (k + 1), ¬ b = c := by
  intro b hb
  rw [List.take_add_one, List.getElem?_eq_getElem hk] at hb
  rcases List.mem_append.1 hb with hb | hb
  · exact h b hb
  · obtain rfl : b = L[k] := by simpa using hb
    exact hc
set_option maxRecDepth 100000 in
set_option maxHeartbeats 3200000 in
theorem refpp_any (v : Value) (l : List UInt8) (b : Nat) (N : List Nat) (w : World) (hv : Rd w N v (ints .u8 (byts l))) (h : l.length = 4 ∨ l.length = 16) (hb : b ≤ 128) :
    Calls Tryd.prog 17 #[.agg #[v, .int .i64 b]] w (StrPost (printV l ++ ([47] ++ Lib.decDigits b)) w) := by
  have HO := hide ((Only.refl [] w).alloc (.cells #[v, .int .i64 b] 30))
  have HV := hide ((hv.less (N' := []) (fun x hx => by cases hx)).only HO.out (by simp))
  have HBX := hide (Blk.new w 30 #[v, .int .i64 b])
  have hd1 := printV_len (l := l)
  have hd2 := dec_len b (by omega)
  have HP := hide (fun W => print_ref b (by omega) W)
  obtain ⟨A, cap, rfl, hcp, hcm⟩ := hv.formb
  have HA := hide (fun W (h2 : Rd W [] (.slice A l.length cap) (ints .u8 (byts l))) => refPrint_addr _ l [] W h2 h)
  unfold StrPost at HA HP
  clear hv h
  obtain ⟨X, hX⟩ : ∃ X : ByteArray, X = ⟨(printV l).toArray⟩ := ⟨_, rfl⟩
  obtain ⟨Y, hY⟩ : ∃ Y : ByteArray, Y = ⟨(Lib.decDigits b).toArray⟩ := ⟨_, rfl⟩
  have hxs : X.size ≤ 84 := by rw [hX]; simpa [ByteArray.size] using hd1
  have hys : Y.size ≤ 20 := by rw [hY]; simpa [ByteArray.size] using hd2
  rw [← hX] at HA
  rw [← hY] at HP
  have HX := hide hX
  have HY := hide hY
  have hov1 : ¬ 9223372036854775807 < X.size + 1 := by omega
  have hov2 : ¬ 9223372036854775807 < X.size + 1 + Y.size := by omega
  have HWB := hide (IntWalk.u64_in (b : Int) (by omega))
  clear hX hY hd1 hd2
  generalize l.length = n at *
  obtain ⟨G, hG⟩ : ∃ G, G = w.heap.size := ⟨_, rfl⟩
  go_enter Tryd.func17, Tryd.ntmps17
  go_upto_region 1 with (fail)
  obtain ⟨w0, hw0⟩ : ∃ w0, w0 = w.alloc (.cells #[.slice A n cap, .int .i64 b] 30) := ⟨_, rfl⟩
  rw [← hw0] at HO HV HBX ⊢
  rw [← hG] at HBX ⊢
  have c0 := HBX.out.cell 0
  have c1 := HBX.out.cell 1
  simp at c0 c1
  clear hw0 hG
  go_region_held3 (fun w' => w'.cell? ⟨G, 0, none⟩ = some (.slice A n cap) ∧ w'.cell? ⟨G, 1, none⟩ = some (.int .i64 b)) (exact ⟨c0, c1⟩) (first
    | (go_at_call 14; with_reducible refine (HA.out _ (HV.out.only (by first | with_reducible exact Only.refl [] _ | exact (Only.refl [] _).drew) (by simp))).mono ?_; rintro e w9 ⟨rfl, ho⟩; (first | (have ho := undrew ho) | skip); have HO := hide (HO.out.trans ho); have HV := hide (HV.out.only ho (by simp)); have HBX := hide (HBX.out.only ho (by simp)); have c0 := HBX.out.cell 0; have c1 := HBX.out.cell 1; simp at c0 c1; clear ho)
    | (go_at_call 33; rw [HWB.out]; with_reducible refine (HP.out _).mono ?_; rintro e w9 ⟨rfl, ho⟩; (first | (have ho := undrew ho) | skip); have HO := hide (HO.out.trans ho); have HV := hide (HV.out.only ho (by simp)); have HBX := hide (HBX.out.only ho (by simp)); have c0 := HBX.out.cell 0; have c1 := HBX.out.cell 1; simp at c0 c1; clear ho))
  all_goals
    go_wp2_with fail
    go_ret
    refine strpost ?_ HO.out
    rw [HX.out, HY.out, ByteArray.data_append]
    simp
theorem refsame_yes (v u : Value) (l m : List UInt8) (b : Int) (N M : List Nat) (w : World) (h : l = m) (hv : Rd w N v (ints .u8 (byts l))) (hu : Rd w M u (ints .u8 (byts m))) :
    Calls Tryd.prog 11 #[.agg #[v, .int .i64 b], .agg #[u, .int .i64 b]] w fun e w' => e = .returned (.bool true) ∧ Only [] w w' :=
  (refsame_any v u l m b b N M w hv hu).mono fun e w' hp => ⟨by rw [hp.1, decide_eq_true h]; simp, hp.2⟩
theorem refsame_no (v u : Value) (l m : List UInt8) (b : Int) (N M : List Nat) (w : World) (h : ¬ l = m) (hv : Rd w N v (ints .u8 (byts l))) (hu : Rd w M u (ints .u8 (byts m))) :
    Calls Tryd.prog 11 #[.agg #[v, .int .i64 b], .agg #[u, .int .i64 b]] w fun e w' => e = .returned (.bool false) ∧ Only [] w w' :=
  (refsame_any v u l m b b N M w hv hu).mono fun e w' hp => ⟨by rw [hp.1, decide_eq_false h]; simp, hp.2⟩
/-- What the reference's ReadPrefix hands back. -/
def RPPost (r : Option (List UInt8 × Nat)) (w : World) (e : Ending) (w' : World) : Prop := match r with
  | some (l, b) => ∃ v, e = .returned (.tuple #[.agg #[v, .int .i64 b], .bool true]) ∧ Rd w' [] v (ints .u8 (byts l)) ∧ Only [] w w'
  | none => e = .returned (.tuple #[.agg #[.slice none 0 0, .int .i64 0], .bool false]) ∧ Only [] w w'
def refP2 (X Y : ByteArray) : Option (List UInt8 × Nat) := match refR X with
  | none => none
  | some l => if (numR Y.data.toList).2 = 0 ∧ (numR Y.data.toList).1 ≤ 128 ∧ rightV l (numR Y.data.toList).1 = true ∧ plainV l (numR Y.data.toList).1 = l then some (l, (numR Y.data.toList).1) else none
def refP (s : ByteArray) : Option (List UInt8 × Nat) :=
  if Lib.indexByte s.data.toList 47 < 0 then none else refP2 (s.extract 0 (Lib.indexByte s.data.toList 47).toNat) (s.extract ((Lib.indexByte s.data.toList 47).toNat + 1) s.size)
theorem refP_none {s : ByteArray} (h : ∀ b ∈ s.data.toList, ¬ b = 47) : refP s = none := if_pos (idx_none h)
theorem refP_some {s : ByteArray} {k : Nat} (hk : k < s.data.toList.length) (h : ∀ b ∈ s.data.toList.take k, ¬ b = 47) (hc : s.data.toList[k] = 47) : refP s = refP2 (s.extract 0 k) (s.extract (k + 1) s.size) := by
  unfold refP
  rw [idx_some hk h hc, if_neg (by omega), Int.toNat_natCast]
end
end Go.Proofs.YthecnaclfhfilaaDoor

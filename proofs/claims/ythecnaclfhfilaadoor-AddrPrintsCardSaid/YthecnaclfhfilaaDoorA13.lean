/-
  Walks and plain words (texts Rfh). No condition beyond those that each theorem states.
-/
import Derived.Test.YthecnaclfhfilaaDoorA08
namespace Go.Proofs.YthecnaclfhfilaaDoor
section
open Go.RowKit Go.Deep

set_option maxRecDepth 100000 in
set_option maxHeartbeats 3200000 in
theorem lite_none (w : World) (s : ByteArray) (h : Lib.indexByte s.data.toList 47 < 0) : Calls Tryd.prog 42 #[.string s, .string ⟨#[47]⟩] w fun e w' => e = .returned (.tuple #[.string s, .string ⟨#[]⟩, .bool false]) ∧ Only [] w w' := by
  have HI := hide (Tryd.stringslite_Index_one s 47)
  generalize Lib.indexByte s.data.toList 47 = q at *
  have hq : ¬ (0 : Int) ≤ q := by omega
  go_enter Tryd.func42, Tryd.ntmps42
  go_wp2_with (go_at_call 48; refine (HI.out _).mono ?_; rintro e w1 ⟨rfl, rfl⟩)
  go_ret3
  exact ⟨rfl, Only.refl [] _⟩
set_option maxRecDepth 100000 in
set_option maxHeartbeats 3200000 in
theorem lite_some (w : World) (s : ByteArray) (hs : s.size ≤ 1000000) (i : Nat) (h : Lib.indexByte s.data.toList 47 = (i : Int)) : Calls Tryd.prog 42 #[.string s, .string ⟨#[47]⟩] w fun e w' => e = .returned (.tuple #[.string (s.extract 0 i), .string (s.extract (i + 1) s.size), .bool true]) ∧ Only [] w w' := by
  have HI := hide (Tryd.stringslite_Index_one s 47)
  have hi := (splitB_some h).1
  rw [h] at HI
  clear h
  have hq : (0 : Int) ≤ (i : Int) := by omega
  go_enter Tryd.func42, Tryd.ntmps42
  go_wp2_with (go_at_call 48; refine (HI.out _).mono ?_; rintro e w1 ⟨rfl, rfl⟩)
  go_quiet (fail)
  go_wp2_with fail
  go_ret3
  exact ⟨rfl, (Only.refl [] _).drewN _⟩
set_option maxRecDepth 100000 in
set_option maxHeartbeats 3200000 in
theorem cut_none (w : World) (s : ByteArray) (h : Lib.indexByte s.data.toList 47 < 0) : Calls Tryd.prog 25 #[.string s, .string ⟨#[47]⟩] w fun e w' => e = .returned (.tuple #[.string s, .string ⟨#[]⟩, .bool false]) ∧ Only [] w w' := by
  go_enter Tryd.func25, Tryd.ntmps25
  go_wp2_with (go_at_call 42; refine (lite_none _ s h).mono ?_; rintro e w1 ⟨rfl, ho⟩)
  go_ret3
  exact ⟨rfl, ho⟩
set_option maxRecDepth 100000 in
set_option maxHeartbeats 3200000 in
theorem cut_some (w : World) (s : ByteArray) (hs : s.size ≤ 1000000) (i : Nat) (h : Lib.indexByte s.data.toList 47 = (i : Int)) : Calls Tryd.prog 25 #[.string s, .string ⟨#[47]⟩] w fun e w' => e = .returned (.tuple #[.string (s.extract 0 i), .string (s.extract (i + 1) s.size), .bool true]) ∧ Only [] w w' := by
  go_enter Tryd.func25, Tryd.ntmps25
  go_wp2_with (go_at_call 42; refine (lite_some _ s (by omega) i h).mono ?_; rintro e w1 ⟨rfl, ho⟩)
  go_ret3
  exact ⟨rfl, ho⟩
/-- What addr.ReadPrefix hands back. -/
def PfxPost (l : List UInt8) (b : Nat) (c : Int) (w : World) (e : Ending) (w' : World) : Prop := ∃ v, e = .returned (.tuple #[.agg #[v, .int .i64 b], .int .i64 c]) ∧ Rd w' [] v (ints .u8 (byts l)) ∧ Only [] w w'
set_option maxRecDepth 100000 in
set_option maxHeartbeats 3200000 in
theorem rp_none (w : World) (s : ByteArray) (hs : s.size ≤ 1000000) (h : Lib.indexByte s.data.toList 47 < 0) : Calls Tryd.prog 8 #[.string s] w (PfxPost [] 0 3 w) := by
  have HO := hide ((Only.refl [] w).alloc (.cells #[.slice none 0 0, .int .i64 0] 30))
  have HBR := hide (Blk.new w 30 #[.slice none 0 0, .int .i64 0])
  go_enter Tryd.func8, Tryd.ntmps8
  go_wp2_with (first
    | (go_at_call 25; refine (cut_none _ s h).mono ?_; rintro e w1 ⟨rfl, ho⟩; have HC := hide (HO.out.trans ho); have HBR := hide (HBR.out.only ho (by simp)); clear ho; have c0 := HBR.out.cell 0; have c1 := HBR.out.cell 1; simp at c0 c1; have hf0 := HBR.out.frozen 0; have hf1 := HBR.out.frozen 1))
  have HF := hide (((HBR.out.set_ 0 (.slice none 0 0)).set_ 1 (.int .i64 0)))
  refine bodyPost_ret (results_cell_two rfl _ _ w.heap.size 30 _ (0, 0) _ rfl HF.out Tryd.underlying30 rfl (by kernel_rfl)) rfl ?_
  exact ⟨_, rfl, Rd.nil _ _, (HC.out.setCell (p := ⟨w.heap.size, 0, none⟩) (.inr (by simp)) _).setCell (p := ⟨w.heap.size, 1, none⟩) (.inr (by simp)) _⟩
set_option maxRecDepth 100000 in
set_option maxHeartbeats 3200000 in
theorem rp_badread (w : World) (s : ByteArray) (hs : s.size ≤ 1000000) (i : Nat) (h : Lib.indexByte s.data.toList 47 = (i : Int)) (X Y : ByteArray) (hX : X = s.extract 0 i) (hY : Y = s.extract (i + 1) s.size) (ha : (readA X).2 ≠ 0) : Calls Tryd.prog 8 #[.string s] w (PfxPost [] 0 3 w) := by
  have HO := hide ((Only.refl [] w).alloc (.cells #[.slice none 0 0, .int .i64 0] 30))
  have HBR := hide (Blk.new w 30 #[.slice none 0 0, .int .i64 0])
  have HCU := hide (fun W => cut_some W s hs i h)
  rw [← hX, ← hY] at HCU
  have hi := (splitB_some h).1
  have hxs : X.size ≤ 1000000 := by rw [hX, ByteArray.size_extract]; omega
  have hys : Y.size ≤ 1000000 := by rw [hY, ByteArray.size_extract]; omega
  clear hX hY h hi
  have HRA := hide (fun W => Read_addr W X hxs)
  have HRB := hide (fun W => num_read W Y hys)
  obtain ⟨la, ca, HA⟩ : ∃ (la : List UInt8) (ca : Nat), Hid (readA X = (la, ca)) := ⟨_, _, hide rfl⟩
  rw [HA.out] at ha
  have hcb : ((ca : Int) != 0) = true := by rw [bne_iff_ne]; simpa using ha
  clear ha
  go_enter Tryd.func8, Tryd.ntmps8
  go_wp2_with (first
    | (go_at_call 25; refine (HCU.out _).mono ?_; rintro e w1 ⟨rfl, ho⟩; have HC := hide (HO.out.trans ho); have HBR := hide (HBR.out.only ho (by simp)); clear ho)
    | (go_at_call 6; refine (HRA.out _).mono ?_; rw [HA.out]; rintro e w2 ⟨v, rfl, ho, hr⟩; have HV := hide (hr [w.heap.size] (by have := HBR.out.lt; simp; omega)); obtain ⟨A, cap, rfl, _, _⟩ := HV.out.formb; have HC := hide (HC.out.trans ho); have HBR := hide (HBR.out.only ho (by simp)); clear ho hr; have c0 := HBR.out.cell 0; have c1 := HBR.out.cell 1; simp at c0 c1; have hf0 := HBR.out.frozen 0; have hf1 := HBR.out.frozen 1))
  have HF := hide (((HBR.out.set_ 0 (.slice none 0 0)).set_ 1 (.int .i64 0)))
  refine bodyPost_ret (results_cell_two rfl _ _ w.heap.size 30 _ (0, 0) _ rfl HF.out Tryd.underlying30 rfl (by kernel_rfl)) rfl ?_
  exact ⟨_, rfl, Rd.nil _ _, (HC.out.setCell (p := ⟨w.heap.size, 0, none⟩) (.inr (by simp)) _).setCell (p := ⟨w.heap.size, 1, none⟩) (.inr (by simp)) _⟩
set_option maxRecDepth 100000 in
set_option maxHeartbeats 3200000 in
theorem rp_badnum (w : World) (s : ByteArray) (hs : s.size ≤ 1000000) (i : Nat) (h : Lib.indexByte s.data.toList 47 = (i : Int)) (X Y : ByteArray) (hX : X = s.extract 0 i) (hY : Y = s.extract (i + 1) s.size) (ha : (readA X).2 = 0) (hb : (numR Y.data.toList).2 ≠ 0) : Calls Tryd.prog 8 #[.string s] w (PfxPost [] 0 3 w) := by
  have HO := hide ((Only.refl [] w).alloc (.cells #[.slice none 0 0, .int .i64 0] 30))
  have HBR := hide (Blk.new w 30 #[.slice none 0 0, .int .i64 0])
  have HCU := hide (fun W => cut_some W s hs i h)
  rw [← hX, ← hY] at HCU
  have hi := (splitB_some h).1
  have hxs : X.size ≤ 1000000 := by rw [hX, ByteArray.size_extract]; omega
  have hys : Y.size ≤ 1000000 := by rw [hY, ByteArray.size_extract]; omega
  clear hX hY h hi
  have HRA := hide (fun W => Read_addr W X hxs)
  have HRB := hide (fun W => num_read W Y hys)
  obtain ⟨la, ca, HA⟩ : ∃ (la : List UInt8) (ca : Nat), Hid (readA X = (la, ca)) := ⟨_, _, hide rfl⟩
  obtain ⟨u, d, HB⟩ : ∃ u d : Nat, Hid (numR Y.data.toList = (u, d)) := ⟨_, _, hide rfl⟩
  have hu := numR_lt Y.data.toList
  rw [HA.out] at ha
  rw [HB.out] at hb hu
  obtain rfl : ca = 0 := ha
  have hdb : ((d : Int) != 0) = true := by rw [bne_iff_ne]; simpa using hb
  clear hb
  go_enter Tryd.func8, Tryd.ntmps8
  go_wp2_with (first
    | (go_at_call 25; refine (HCU.out _).mono ?_; rintro e w1 ⟨rfl, ho⟩; have HC := hide (HO.out.trans ho); have HBR := hide (HBR.out.only ho (by simp)); clear ho)
    | (go_at_call 6; refine (HRA.out _).mono ?_; rw [HA.out]; rintro e w2 ⟨v, rfl, ho, hr⟩; have HV := hide (hr [w.heap.size] (by have := HBR.out.lt; simp; omega)); obtain ⟨A, cap, rfl, _, _⟩ := HV.out.formb; have HC := hide (HC.out.trans ho); have HBR := hide (HBR.out.only ho (by simp)); clear ho hr)
    | (go_at_call 22; refine (HRB.out _).mono ?_; rw [HB.out]; rintro e w3 ⟨rfl, ho⟩; have HC := hide (HC.out.trans ho); have HBR := hide (HBR.out.only ho (by simp)); have HV := hide (HV.out.only ho (by simp)); clear ho; have c0 := HBR.out.cell 0; have c1 := HBR.out.cell 1; simp at c0 c1; have hf0 := HBR.out.frozen 0; have hf1 := HBR.out.frozen 1))
  have HF := hide (((HBR.out.set_ 0 (.slice none 0 0)).set_ 1 (.int .i64 0)))
  refine bodyPost_ret (results_cell_two rfl _ _ w.heap.size 30 _ (0, 0) _ rfl HF.out Tryd.underlying30 rfl (by kernel_rfl)) rfl ?_
  exact ⟨_, rfl, Rd.nil _ _, (HC.out.setCell (p := ⟨w.heap.size, 0, none⟩) (.inr (by simp)) _).setCell (p := ⟨w.heap.size, 1, none⟩) (.inr (by simp)) _⟩
set_option maxRecDepth 100000 in
set_option maxHeartbeats 3200000 in
theorem rp_bignum (w : World) (s : ByteArray) (hs : s.size ≤ 1000000) (i : Nat) (h : Lib.indexByte s.data.toList 47 = (i : Int)) (X Y : ByteArray) (hX : X = s.extract 0 i) (hY : Y = s.extract (i + 1) s.size) (ha : (readA X).2 = 0) (hb : (numR Y.data.toList).2 = 0) (hb2 : 128 < (numR Y.data.toList).1) : Calls Tryd.prog 8 #[.string s] w (PfxPost [] 0 3 w) := by
  have HO := hide ((Only.refl [] w).alloc (.cells #[.slice none 0 0, .int .i64 0] 30))
  have HBR := hide (Blk.new w 30 #[.slice none 0 0, .int .i64 0])
  have HCU := hide (fun W => cut_some W s hs i h)
  rw [← hX, ← hY] at HCU
  have hi := (splitB_some h).1
  have hxs : X.size ≤ 1000000 := by rw [hX, ByteArray.size_extract]; omega
  have hys : Y.size ≤ 1000000 := by rw [hY, ByteArray.size_extract]; omega
  clear hX hY h hi
  have HRA := hide (fun W => Read_addr W X hxs)
  have HRB := hide (fun W => num_read W Y hys)
  obtain ⟨la, ca, HA⟩ : ∃ (la : List UInt8) (ca : Nat), Hid (readA X = (la, ca)) := ⟨_, _, hide rfl⟩
  obtain ⟨u, d, HB⟩ : ∃ u d : Nat, Hid (numR Y.data.toList = (u, d)) := ⟨_, _, hide rfl⟩
  have hu := numR_lt Y.data.toList
  rw [HA.out] at ha
  rw [HB.out] at hb hu hb2
  obtain rfl : ca = 0 := ha
  obtain rfl : d = 0 := hb
  have hu2 : u < 18446744073709551616 := hu
  have hu3 : (128 : Int) < (u : Int) := by have : 128 < u := hb2; omega
  clear hb2 hu
  go_enter Tryd.func8, Tryd.ntmps8
  go_wp2_with (first
    | (go_at_call 25; refine (HCU.out _).mono ?_; rintro e w1 ⟨rfl, ho⟩; have HC := hide (HO.out.trans ho); have HBR := hide (HBR.out.only ho (by simp)); clear ho)
    | (go_at_call 6; refine (HRA.out _).mono ?_; rw [HA.out]; rintro e w2 ⟨v, rfl, ho, hr⟩; have HV := hide (hr [w.heap.size] (by have := HBR.out.lt; simp; omega)); obtain ⟨A, cap, rfl, _, _⟩ := HV.out.formb; have HC := hide (HC.out.trans ho); have HBR := hide (HBR.out.only ho (by simp)); clear ho hr)
    | (go_at_call 22; refine (HRB.out _).mono ?_; rw [HB.out]; rintro e w3 ⟨rfl, ho⟩; have HC := hide (HC.out.trans ho); have HBR := hide (HBR.out.only ho (by simp)); have HV := hide (HV.out.only ho (by simp)); clear ho; have c0 := HBR.out.cell 0; have c1 := HBR.out.cell 1; simp at c0 c1; have hf0 := HBR.out.frozen 0; have hf1 := HBR.out.frozen 1))
  have HF := hide (((HBR.out.set_ 0 (.slice none 0 0)).set_ 1 (.int .i64 0)))
  refine bodyPost_ret (results_cell_two rfl _ _ w.heap.size 30 _ (0, 0) _ rfl HF.out Tryd.underlying30 rfl (by kernel_rfl)) rfl ?_
  exact ⟨_, rfl, Rd.nil _ _, (HC.out.setCell (p := ⟨w.heap.size, 0, none⟩) (.inr (by simp)) _).setCell (p := ⟨w.heap.size, 1, none⟩) (.inr (by simp)) _⟩
set_option maxRecDepth 100000 in
set_option maxHeartbeats 3200000 in
theorem rp_notplain (w : World) (s : ByteArray) (hs : s.size ≤ 1000000) (i : Nat) (h : Lib.indexByte s.data.toList 47 = (i : Int)) (X Y : ByteArray) (hX : X = s.extract 0 i) (hY : Y = s.extract (i + 1) s.size) (ha : (readA X).2 = 0) (hb : (numR Y.data.toList).2 = 0) (hb2 : (numR Y.data.toList).1 ≤ 128) (hp : isPlain (readA X).1 ((numR Y.data.toList).1 : Int) = false) : Calls Tryd.prog 8 #[.string s] w (PfxPost [] 0 3 w) := by
  have HO := hide ((Only.refl [] w).alloc (.cells #[.slice none 0 0, .int .i64 0] 30))
  have HBR := hide (Blk.new w 30 #[.slice none 0 0, .int .i64 0])
  have HCU := hide (fun W => cut_some W s hs i h)
  rw [← hX, ← hY] at HCU
  have hi := (splitB_some h).1
  have hxs : X.size ≤ 1000000 := by rw [hX, ByteArray.size_extract]; omega
  have hys : Y.size ≤ 1000000 := by rw [hY, ByteArray.size_extract]; omega
  clear hX hY h hi
  have HRA := hide (fun W => Read_addr W X hxs)
  have HRB := hide (fun W => num_read W Y hys)
  obtain ⟨la, ca, HA⟩ : ∃ (la : List UInt8) (ca : Nat), Hid (readA X = (la, ca)) := ⟨_, _, hide rfl⟩
  obtain ⟨u, d, HB⟩ : ∃ u d : Nat, Hid (numR Y.data.toList = (u, d)) := ⟨_, _, hide rfl⟩
  have hu := numR_lt Y.data.toList
  rw [HA.out, HB.out] at hp
  rw [HA.out] at ha
  rw [HB.out] at hb hu hb2
  have HP := hide hp
  obtain rfl : ca = 0 := ha
  obtain rfl : d = 0 := hb
  have hu2 : u < 18446744073709551616 := hu
  have hu3 : ¬ (128 : Int) < (u : Int) := by have : u ≤ 128 := hb2; omega
  have hu4 : u ≤ 128 := hb2
  clear hb2 hu hp
  go_enter Tryd.func8, Tryd.ntmps8
  go_wp2_with (first
    | (go_at_call 25; refine (HCU.out _).mono ?_; rintro e w1 ⟨rfl, ho⟩; have HC := hide (HO.out.trans ho); have HBR := hide (HBR.out.only ho (by simp)); clear ho)
    | (go_at_call 6; refine (HRA.out _).mono ?_; rw [HA.out]; rintro e w2 ⟨v, rfl, ho, hr⟩; have HV := hide (hr [w.heap.size] (by have := HBR.out.lt; simp; omega)); obtain ⟨A, cap, rfl, _, _⟩ := HV.out.formb; have HC := hide (HC.out.trans ho); have HBR := hide (HBR.out.only ho (by simp)); clear ho hr)
    | (go_at_call 22; refine (HRB.out _).mono ?_; rw [HB.out]; rintro e w3 ⟨rfl, ho⟩; have HC := hide (HC.out.trans ho); have HBR := hide (HBR.out.only ho (by simp)); have HV := hide (HV.out.only ho (by simp)); clear ho; have HBX0 := hide (Blk.new w3 30 #[.slice A la.length cap, .int .i64 u]))
    | (go_at_call 26; refine (plain_any _ la u _ _ (HV.out.only ((Only.refl [] _).alloc _) (by simp))).mono ?_; rw [HP.out]; rintro e w4 ⟨rfl, ho⟩; have HC := hide ((HC.out.alloc _).trans ho); have HBR := hide ((HBR.out.alloc _).only ho (by simp)); have HBX := hide (HBX0.out.only ho (by simp)); have HV := hide ((HV.out.only ((Only.refl [] _).alloc _) (by simp)).only ho (by simp)); clear ho; have c0 := HBR.out.cell 0; have c1 := HBR.out.cell 1; simp at c0 c1; have hf0 := HBR.out.frozen 0; have hf1 := HBR.out.frozen 1))
  have HF := hide (((HBR.out.set_ 0 (.slice none 0 0)).set_ 1 (.int .i64 0)))
  refine bodyPost_ret (results_cell_two rfl _ _ w.heap.size 30 _ (0, 0) _ rfl HF.out Tryd.underlying30 rfl (by kernel_rfl)) rfl ?_
  exact ⟨_, rfl, Rd.nil _ _, (HC.out.setCell (p := ⟨w.heap.size, 0, none⟩) (.inr (by simp)) _).setCell (p := ⟨w.heap.size, 1, none⟩) (.inr (by simp)) _⟩
set_option maxRecDepth 100000 in
set_option maxHeartbeats 3200000 in
theorem rp_plain (w : World) (s : ByteArray) (hs : s.size ≤ 1000000) (i : Nat) (h : Lib.indexByte s.data.toList 47 = (i : Int)) (X Y : ByteArray) (hX : X = s.extract 0 i) (hY : Y = s.extract (i + 1) s.size) (ha : (readA X).2 = 0) (hb : (numR Y.data.toList).2 = 0) (hb2 : (numR Y.data.toList).1 ≤ 128) (hp : isPlain (readA X).1 ((numR Y.data.toList).1 : Int) = true) : Calls Tryd.prog 8 #[.string s] w (PfxPost (readA X).1 (numR Y.data.toList).1 0 w) := by
  have HO := hide ((Only.refl [] w).alloc (.cells #[.slice none 0 0, .int .i64 0] 30))
  have HBR := hide (Blk.new w 30 #[.slice none 0 0, .int .i64 0])
  have HCU := hide (fun W => cut_some W s hs i h)
  rw [← hX, ← hY] at HCU
  have hi := (splitB_some h).1
  have hxs : X.size ≤ 1000000 := by rw [hX, ByteArray.size_extract]; omega
  have hys : Y.size ≤ 1000000 := by rw [hY, ByteArray.size_extract]; omega
  clear hX hY h hi
  have HRA := hide (fun W => Read_addr W X hxs)
  have HRB := hide (fun W => num_read W Y hys)
  obtain ⟨la, ca, HA⟩ : ∃ (la : List UInt8) (ca : Nat), Hid (readA X = (la, ca)) := ⟨_, _, hide rfl⟩
  obtain ⟨u, d, HB⟩ : ∃ u d : Nat, Hid (numR Y.data.toList = (u, d)) := ⟨_, _, hide rfl⟩
  have hu := numR_lt Y.data.toList
  rw [HA.out, HB.out] at hp
  rw [HA.out] at ha
  rw [HB.out] at hb hu hb2
  have HP := hide hp
  obtain rfl : ca = 0 := ha
  obtain rfl : d = 0 := hb
  have hu2 : u < 18446744073709551616 := hu
  have hu3 : ¬ (128 : Int) < (u : Int) := by have : u ≤ 128 := hb2; omega
  have hu4 : u ≤ 128 := hb2
  clear hb2 hu hp
  go_enter Tryd.func8, Tryd.ntmps8
  go_wp2_with (first
    | (go_at_call 25; refine (HCU.out _).mono ?_; rintro e w1 ⟨rfl, ho⟩; have HC := hide (HO.out.trans ho); have HBR := hide (HBR.out.only ho (by simp)); clear ho)
    | (go_at_call 6; refine (HRA.out _).mono ?_; rw [HA.out]; rintro e w2 ⟨v, rfl, ho, hr⟩; have HV := hide (hr [w.heap.size] (by have := HBR.out.lt; simp; omega)); obtain ⟨A, cap, rfl, _, _⟩ := HV.out.formb; have HC := hide (HC.out.trans ho); have HBR := hide (HBR.out.only ho (by simp)); clear ho hr)
    | (go_at_call 22; refine (HRB.out _).mono ?_; rw [HB.out]; rintro e w3 ⟨rfl, ho⟩; have HC := hide (HC.out.trans ho); have HBR := hide (HBR.out.only ho (by simp)); have HV := hide (HV.out.only ho (by simp)); clear ho; have HBX0 := hide (Blk.new w3 30 #[.slice A la.length cap, .int .i64 u]))
    | (go_at_call 26; refine (plain_any _ la u _ _ (HV.out.only ((Only.refl [] _).alloc _) (by simp))).mono ?_; rw [HP.out]; rintro e w4 ⟨rfl, ho⟩; have HC := hide ((HC.out.alloc _).trans ho); have HBR := hide ((HBR.out.alloc _).only ho (by simp)); have HBX := hide (HBX0.out.only ho (by simp)); have HV := hide ((HV.out.only ((Only.refl [] _).alloc _) (by simp)).only ho (by simp)); clear ho; have c0 := HBR.out.cell 0; have c1 := HBR.out.cell 1; simp at c0 c1; have hf0 := HBR.out.frozen 0; have hf1 := HBR.out.frozen 1; have x0 := HBX.out.cell 0; have x1 := HBX.out.cell 1; simp at x0 x1))
  have HF := hide (((HBR.out.set_ 0 (.slice A la.length cap)).set_ 1 (.int .i64 u)))
  refine bodyPost_ret (results_cell_two rfl _ _ w.heap.size 30 _ (0, 0) _ rfl HF.out Tryd.underlying30 rfl (by kernel_rfl)) rfl ?_
  rw [HA.out, HB.out]
  exact ⟨_, rfl, (HV.out.only (((Only.refl [w.heap.size] w4).setCell (p := ⟨w.heap.size, 0, none⟩) (.inl (by simp)) (.slice A la.length cap)).setCell (p := ⟨w.heap.size, 1, none⟩) (.inl (by simp)) (.int .i64 u)) (by simp)).less (by simp), (HC.out.setCell (p := ⟨w.heap.size, 0, none⟩) (.inr (by simp)) _).setCell (p := ⟨w.heap.size, 1, none⟩) (.inr (by simp)) _⟩
end
end Go.Proofs.YthecnaclfhfilaaDoor

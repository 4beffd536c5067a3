/-
  The reader of terms: word, take, peek, number, by contracts on the reader's block. Condition: the block is known whole, the text is no longer than a slice may be.
-/
import Derived.Test.YtfmfnfmhknlpbaaDoorTm1Q
import Derived.Deep.LoopGhost
namespace Go.Proofs.YtfmfnfmhknlpbaaDoor
open Go.RowKit Go.Deep

def del (c : UInt8) : Bool := c == 44 || c == 41 || c == 40
/-- The end of the word that begins at p. -/
def wend (s : ByteArray) (p : Nat) : Nat := p + ((s.data.toList.drop p).takeWhile fun c => !del c).length
theorem drop_at (s : ByteArray) (p : Nat) (h : p < s.size) : s.data.toList.drop p = s[p] :: s.data.toList.drop (p + 1) := by
  rw [List.drop_eq_getElem_cons (by simpa using h)]; rfl
theorem wend_end (s : ByteArray) (p : Nat) (h : s.size ≤ p) : wend s p = p := by
  unfold wend; rw [List.drop_of_length_le (by simpa using h)]; simp
theorem wend_stop (s : ByteArray) (p : Nat) (h : p < s.size) (hd : del s[p] = true) : wend s p = p := by
  unfold wend; rw [drop_at s p h]; simp [hd]
theorem wend_step (s : ByteArray) (p : Nat) (h : p < s.size) (hd : del s[p] = false) : wend s (p + 1) = wend s p := by
  unfold wend; rw [drop_at s p h]; simp [hd]; omega
theorem wend_ge (s : ByteArray) (p : Nat) : p ≤ wend s p := Nat.le_add_right _ _
theorem wend_le (s : ByteArray) (p : Nat) (h : p ≤ s.size) : wend s p ≤ s.size := by
  unfold wend
  have h1 : ((s.data.toList.drop p).takeWhile fun c => !del c).length ≤ (s.data.toList.drop p).length := (List.takeWhile_sublist _).length_le
  have h2 : (s.data.toList.drop p).length = s.size - p := by rw [List.length_drop]; rfl
  omega

def peekV (s : ByteArray) (p : Nat) (c : Int) : Bool := if h : p < s.size then ((s[p].toNat : Int) == c) else false

set_option maxRecDepth 100000 in
set_option maxHeartbeats 1600000 in
theorem peek_any (w : World) (g : Nat) (s : ByteArray) (p : Nat) (c : Int) (hb : Blk w g 133 #[.string s, .int .i64 p]) (hs : s.size ≤ maxLen) :
    Calls Tryd.prog 138 #[.pointer (some ⟨g, 0, none⟩), .int .u8 c] w fun e w' => e = .returned (.bool (peekV s p c)) ∧ ∃ n, w' = w.drewN n := by
  unfold maxLen at hs
  have k0 := hb.cell 0
  have k1 := hb.cell 1
  simp at k0 k1
  clear hb
  by_cases hlt : p < s.size
  · have hlt' : (p : Int) < s.size := by omega
    have HV := hide (show peekV s p c = ((s[p].toNat : Int) == c) by unfold peekV; rw [dif_pos hlt])
    have hd : decide (p < s.size) = true := decide_eq_true hlt
    go_enter Tryd.func138, Tryd.ntmps138
    go_wp2_with fail
    go_quiet (fail)
    go_wp2_with fail
    go_ret
    exact ⟨(by rw [HV.out]; rfl), _, rfl⟩
  · have hlt' : ¬ (p : Int) < s.size := by omega
    have HV := hide (show peekV s p c = false by unfold peekV; rw [dif_neg hlt])
    have hd : decide (p < s.size) = false := decide_eq_false hlt
    go_enter Tryd.func138, Tryd.ntmps138
    go_wp2_with fail
    go_quiet (fail)
    go_wp2_with fail
    go_ret
    exact ⟨(by rw [HV.out]; rfl), _, rfl⟩

/-- The ending of a reader that meets no term. -/
def Fault (S : List Nat) (w : World) (e : Ending) (w' : World) : Prop := e = .panicked [{ v := .iface 136 (.agg #[]), recovered := false }] ∧ Only S w w'
/-- The reader stands at p. -/
def At (g : Nat) (s : ByteArray) (p : Nat) (w : World) : Prop := Blk w g 133 #[.string s, .int .i64 p]
def TakePost (g : Nat) (s : ByteArray) (p : Nat) (ok : Bool) (w : World) (e : Ending) (w' : World) : Prop :=
  if ok = true then e = .returned (.tuple #[]) ∧ At g s (p + 1) w' ∧ Only [g] w w' else Fault [g] w e w'

theorem take_no {g : Nat} {s : ByteArray} {p : Nat} {ok : Bool} {w w' : World} (h : ok = false) (ho : Only [g] w w') : TakePost g s p ok w (.panicked [{ v := .iface 136 (.agg #[]), recovered := false }]) w' := by
  subst h; exact ⟨rfl, ho⟩
theorem take_yes {g : Nat} {s : ByteArray} {p : Nat} {ok : Bool} {w w' : World} (h : ok = true) (hb : At g s (p + 1) w') (ho : Only [g] w w') : TakePost g s p ok w (.returned (.tuple #[])) w' := by
  subst h; exact ⟨rfl, hb, ho⟩
set_option maxRecDepth 100000 in
set_option maxHeartbeats 1600000 in
theorem take_any (w : World) (g : Nat) (s : ByteArray) (p : Nat) (c : Int) (hb : At g s p w) (hs : s.size ≤ maxLen) :
    Calls Tryd.prog 128 #[.pointer (some ⟨g, 0, none⟩), .int .u8 c] w (TakePost g s p (peekV s p c) w) := by
  unfold maxLen at hs
  have HB := hide hb
  have HO := hide (Only.refl [g] w)
  have k0 := hb.cell 0
  have k1 := hb.cell 1
  have f1 := hb.frozen 1
  simp at k0 k1
  clear hb
  by_cases hlt : p < s.size
  · have hlt' : ¬ (s.size : Int) ≤ p := by omega
    have hd : decide (s.size ≤ p) = false := decide_eq_false (by omega)
    cases hc : ((s[p].toNat : Int) == c) with
    | true =>
      have HV := hide (show peekV s p c = true by unfold peekV; rw [dif_pos hlt]; exact hc)
      have hn : ((s[p].toNat : Int) != c) = false := by simpa [bne] using hc
      go_enter Tryd.func128, Tryd.ntmps128
      go_wp2_with fail
      go_quiet (fail)
      go_wp2_with fail
      go_end0
      exact take_yes HV.out ((HB.out.drewN _).set_ 1 _) ((HO.out.drewN _).setCell (p := ⟨g, 1, none⟩) (.inl (by simp)) _)
    | false =>
      have HV := hide (show peekV s p c = false by unfold peekV; rw [dif_pos hlt]; exact hc)
      have hn : ((s[p].toNat : Int) != c) = true := by simpa [bne] using hc
      go_enter Tryd.func128, Tryd.ntmps128
      go_wp2_with fail
      go_quiet (fail)
      go_wp2_with fail
      exact ⟨rfl, take_no HV.out (HO.out.drewN _)⟩
  · have hlt' : (s.size : Int) ≤ p := by omega
    have hd : decide (s.size ≤ p) = true := decide_eq_true (by omega)
    have HV := hide (show peekV s p c = false by unfold peekV; rw [dif_neg hlt])
    go_enter Tryd.func128, Tryd.ntmps128
    go_wp2_with fail
    go_quiet (fail)
    go_wp2_with fail
    exact ⟨rfl, take_no HV.out (HO.out.drewN _)⟩
end Go.Proofs.YtfmfnfmhknlpbaaDoor

/-
  num.Hex: the text of bytes, by walking. Condition: at most 1,000,000 bytes.
-/
import Derived.Test.YtfmfnfmhknlpbaaNum4Q
namespace Go.Proofs.Ytfmfnfmhknlpbaa
open Go.RowKit Go.Deep

def hd (n : Nat) : UInt8 := if n < 10 then UInt8.ofNat (48 + n) else UInt8.ofNat (87 + n)
theorem hd_nat (n : Nat) (h : n < 16) : (hd n).toNat = if n < 10 then 48 + n else 87 + n := by
  unfold hd; split <;> simp [UInt8.toNat_ofNat'] <;> omega
def hexS : List UInt8 → List UInt8
  | [] => []
  | b :: r => hd (b.toNat / 16) :: hd (b.toNat % 16) :: hexS r
theorem hexS_append : ∀ l m : List UInt8, hexS (l ++ m) = hexS l ++ hexS m
  | [], m => rfl
  | b :: r, m => by simp only [List.cons_append, hexS, hexS_append r m]
theorem hexS_length : ∀ l : List UInt8, (hexS l).length = 2 * l.length
  | [] => rfl
  | b :: r => by simp only [hexS, List.length_cons, hexS_length r]; omega
def digs16 : ByteArray := ⟨#[48, 49, 50, 51, 52, 53, 54, 55, 56, 57, 97, 98, 99, 100, 101, 102]⟩
theorem dig_at (n : Nat) (h : n < 16) (W : World) : (Instr.index 9 (.string ⟨#[48, 49, 50, 51, 52, 53, 54, 55, 56, 57, 97, 98, 99, 100, 101, 102]⟩) (.int .u8 (n : Int))).run Try.prog W = .ok (.int .u8 ((hd n).toNat : Int)) W := by
  rcases (show n = 0 ∨ n = 1 ∨ n = 2 ∨ n = 3 ∨ n = 4 ∨ n = 5 ∨ n = 6 ∨ n = 7 ∨ n = 8 ∨ n = 9 ∨ n = 10 ∨ n = 11 ∨ n = 12 ∨ n = 13 ∨ n = 14 ∨ n = 15 by omega) with rfl | rfl | rfl | rfl | rfl | rfl | rfl | rfl | rfl | rfl | rfl | rfl | rfl | rfl | rfl | rfl
  all_goals kernel_rfl
theorem reads_two (w : World) (e : TypeId) (x y : Value) (B : Nat) (hB : w.heap.size < B) : Reads (w.alloc (.cells #[x, y] e)) B 1 (some ⟨w.heap.size, 0, none⟩) 2 [x, y] :=
  ⟨rfl, fun _ => ⟨_, rfl, hB, fun j u hu => by
    rw [add_mk, Nat.zero_add, (Blk.new w e #[x, y]).cell j]
    simpa using hu⟩⟩
theorem take_snoc_l {α : Type} (l : List α) (k : Nat) (x : α) (h : l[k]? = some x) : l.take (k + 1) = l.take k ++ [x] := by
  rw [List.take_add_one, h]; rfl
theorem two_hex {v : Value} {w' : World} {B e k : Nat} {l : List UInt8} {c : UInt8} (h : w'.ownsRow B e 1 v (2 * k + 2) (ints .u8 (byts (hexS (l.take k))) ++ [.int .u8 ((hd (c.toNat / 16)).toNat : Int), .int .u8 ((hd (c.toNat % 16)).toNat : Int)])) (hc : l[k]? = some c) :
    w'.ownsRow B e 1 v (2 * (k + 1)) (ints .u8 (byts (hexS (l.take (k + 1))))) := by
  rw [take_snoc_l l k c hc, hexS_append, byts_append, ← ints_snoc_list]
  exact h
def StrPost (l : List UInt8) (w : World) (e : Ending) (w' : World) : Prop := e = .returned (.string ⟨l.toArray⟩) ∧ Only [] w w'
theorem strpost {l m : List UInt8} {w w' : World} (h : l = m) (ho : Only [] w w') : StrPost l w (.returned (.string ⟨m.toArray⟩)) w' := by subst h; exact ⟨rfl, ho⟩

end Go.Proofs.Ytfmfnfmhknlpbaa

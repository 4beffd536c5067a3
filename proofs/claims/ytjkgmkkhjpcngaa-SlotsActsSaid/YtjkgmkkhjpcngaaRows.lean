/-
  No cell of these rows narrows 'for every input' (looked for: loops, veiled, ifaces, maps, wideKeys, modest, calm, conditions, laid).
  DERIVED. THE GIVEN ROWS OF THIS SEAT. 4 by the template 'for every input the law returns true; each argument reads behind the call as it read before'; 0 by the template 'total and deterministic' (their statements: YtjkgmkkhjpcngaaTotals.lean).
  GIVEN WITH THE SEED: the statements are not yours to turn. If you find one false, say at which input.
  Laid BY PROGRAM, IN A SANDBOX (cutbox-rows.mjs): the forced cells as the released guide's own fill.sh prints them over the translation 92a228444cdff84c… (all of the seat's roots in one cut). By AI agents, Wed Nov 11 2026. No macro, syntax, notation, axiom, sorry.
-/
import Derived.Test.YtjkgmkkhjpcngaaChecked
import GoSem.Claim
import GoSem.ClaimJoined
import GoSem.ClaimMapViews
import Derived.JoinedTies
import Derived.KernelRfl
namespace Go.Proofs.Ytjkgmkkhjpcngaa
/- THE CELL 'sum', in the pinned program and in every row, IS THE sha256 OF THE DUMP (.gsa) THAT YtjkgmkkhjpcngaaProg.lean LOADS. Nothing in Lean hashes anything: it is a label: what it is worth is what the hold of that sum in a sandbox is worth. -/
noncomputable def Try.pinned : Pinned := { name := "ytjkgmkkhjpcngaa", sum := "92a228444cdff84c33d274cbf7400530ced0dd91f2ab73cc507a09c58b3b0b88", checked := Try.checked }
namespace Rows
def none {H : Type} : Left H := { results := [], args := [] }

/-- 'snicketlaw08.TrieActs': WHATEVER THE INPUT: true; the input reads as it did. -/
def trieActsSpec : ChangeSpec := { name := "trieActs", fn := fun _ => fun
  | [d1, d2] => { results := [.lit (.bool true)], args := [d1, d2] }
  | _ => none }
def trieActsRow : OpenClaim := { program := "ytjkgmkkhjpcngaa", sum := "92a228444cdff84c33d274cbf7400530ced0dd91f2ab73cc507a09c58b3b0b88", func := "snicket/snicketlaw08.TrieActs", spec := "trieActs", unfollowed := true, recurses := true, apart := false }
def TrieActsSaid : Prop := trieActsRow.holds Try.pinned (OpenSpec.ofChange trieActsSpec)

/-- ITS FALSE NEIGHBOUR: 'it returns false'. Refute it at one input. -/
def trieActsWrong : ChangeSpec := { name := "trieActs", fn := fun _ => fun
  | [d1, d2] => { results := [.lit (.bool false)], args := [d1, d2] }
  | _ => none }
def TrieActsWrongFalsely : Prop := trieActsRow.holds Try.pinned (OpenSpec.ofChange trieActsWrong)

/-- 'snicketlaw08.TrieNil': WHATEVER THE INPUT: true; the input reads as it did. -/
def trieNilSpec : ChangeSpec := { name := "trieNil", fn := fun _ => fun
  | [d1, d2] => { results := [.lit (.bool true)], args := [d1, d2] }
  | _ => none }
def trieNilRow : OpenClaim := { program := "ytjkgmkkhjpcngaa", sum := "92a228444cdff84c33d274cbf7400530ced0dd91f2ab73cc507a09c58b3b0b88", func := "snicket/snicketlaw08.TrieNil", spec := "trieNil", unfollowed := true, recurses := true, apart := false }
def TrieNilSaid : Prop := trieNilRow.holds Try.pinned (OpenSpec.ofChange trieNilSpec)

/-- ITS FALSE NEIGHBOUR: 'it returns false'. Refute it at one input. -/
def trieNilWrong : ChangeSpec := { name := "trieNil", fn := fun _ => fun
  | [d1, d2] => { results := [.lit (.bool false)], args := [d1, d2] }
  | _ => none }
def TrieNilWrongFalsely : Prop := trieNilRow.holds Try.pinned (OpenSpec.ofChange trieNilWrong)

/-- 'snicketlaw13.SlotsActs': WHATEVER THE INPUT: true; the input reads as it did. -/
def slotsActsSpec : ChangeSpec := { name := "slotsActs", fn := fun _ => fun
  | [d1, d2, d3] => { results := [.lit (.bool true)], args := [d1, d2, d3] }
  | _ => none }
def slotsActsRow : OpenClaim := { program := "ytjkgmkkhjpcngaa", sum := "92a228444cdff84c33d274cbf7400530ced0dd91f2ab73cc507a09c58b3b0b88", func := "snicket/snicketlaw13.SlotsActs", spec := "slotsActs", unfollowed := true, recurses := true, apart := false }
def SlotsActsSaid : Prop := slotsActsRow.holds Try.pinned (OpenSpec.ofChange slotsActsSpec)

/-- ITS FALSE NEIGHBOUR: 'it returns false'. Refute it at one input. -/
def slotsActsWrong : ChangeSpec := { name := "slotsActs", fn := fun _ => fun
  | [d1, d2, d3] => { results := [.lit (.bool false)], args := [d1, d2, d3] }
  | _ => none }
def SlotsActsWrongFalsely : Prop := slotsActsRow.holds Try.pinned (OpenSpec.ofChange slotsActsWrong)

/-- 'snicketlaw13.SlotsNil': WHATEVER THE INPUT: true; the input reads as it did. -/
def slotsNilSpec : ChangeSpec := { name := "slotsNil", fn := fun _ => fun
  | [d1, d2, d3] => { results := [.lit (.bool true)], args := [d1, d2, d3] }
  | _ => none }
def slotsNilRow : OpenClaim := { program := "ytjkgmkkhjpcngaa", sum := "92a228444cdff84c33d274cbf7400530ced0dd91f2ab73cc507a09c58b3b0b88", func := "snicket/snicketlaw13.SlotsNil", spec := "slotsNil", unfollowed := true, recurses := true, apart := false }
def SlotsNilSaid : Prop := slotsNilRow.holds Try.pinned (OpenSpec.ofChange slotsNilSpec)

/-- ITS FALSE NEIGHBOUR: 'it returns false'. Refute it at one input. -/
def slotsNilWrong : ChangeSpec := { name := "slotsNil", fn := fun _ => fun
  | [d1, d2, d3] => { results := [.lit (.bool false)], args := [d1, d2, d3] }
  | _ => none }
def SlotsNilWrongFalsely : Prop := slotsNilRow.holds Try.pinned (OpenSpec.ofChange slotsNilWrong)

/- THE SECOND FORM. 'bulk': how many values and letters a reading holds, each counted each time it is reached (what is shared counts as often as it is met; a slice's spare places count too). A statement '..UptoSaid' is the law's where the arguments, and the package variables that the reading takes, are together of bulk at most 1048576: NARROWER than '..Said'. Prove '..Said' where nothing that the law and all that it calls make is longer than what came in: it says more and counts as full. Else prove '..UptoSaid'. A law counts once. -/
mutual
def uptoBulk {H : Type} : DataW H → Nat
  | .lit (.string bytes) => bytes.length + 1
  | .lit _ => 1
  | .nil => 1
  | .ptr d => uptoBulk d + 1
  | .slice elems spare => uptoBulkAll elems + uptoBulkAll spare + 1
  | .agg parts => uptoBulkAll parts + 1
  | .iface _ d => uptoBulk d + 1
  | .map entries => uptoBulkEntries entries + 1
  | .held _ => 1
def uptoBulkAll {H : Type} : List (DataW H) → Nat
  | [] => 0
  | d :: r => uptoBulk d + uptoBulkAll r
def uptoBulkEntries {H : Type} : List (Lit × DataW H) → Nat
  | [] => 0
  | x :: r => uptoBulkEntry x + uptoBulkEntries r
def uptoBulkEntry {H : Type} : Lit × DataW H → Nat
  | (.string bytes, d) => bytes.length + uptoBulk d + 1
  | (_, d) => uptoBulk d + 1
 end
def uptoSmall : (H : Type) → List (DataW H) → Bool := fun _ ds => decide (uptoBulkAll ds ≤ 1048576)
def OpenSpec.upto (s : _root_.Go.ChangeSpec) : _root_.Go.OpenSpec := { _root_.Go.OpenSpec.ofChange s with cond := some uptoSmall }

/-- 'snicketlaw08.TrieActs', WHERE WHAT IT READS IS OF BULK AT MOST 1048576: true; the input reads as it did. -/
def trieActsUptoRow : OpenClaim := { program := "ytjkgmkkhjpcngaa", sum := "92a228444cdff84c33d274cbf7400530ced0dd91f2ab73cc507a09c58b3b0b88", func := "snicket/snicketlaw08.TrieActs", spec := "trieActs", unfollowed := true, recurses := true, apart := false, narrowed := true }
def TrieActsUptoSaid : Prop := trieActsUptoRow.holds Try.pinned (OpenSpec.upto trieActsSpec)

/-- 'snicketlaw08.TrieNil', WHERE WHAT IT READS IS OF BULK AT MOST 1048576: true; the input reads as it did. -/
def trieNilUptoRow : OpenClaim := { program := "ytjkgmkkhjpcngaa", sum := "92a228444cdff84c33d274cbf7400530ced0dd91f2ab73cc507a09c58b3b0b88", func := "snicket/snicketlaw08.TrieNil", spec := "trieNil", unfollowed := true, recurses := true, apart := false, narrowed := true }
def TrieNilUptoSaid : Prop := trieNilUptoRow.holds Try.pinned (OpenSpec.upto trieNilSpec)

/-- 'snicketlaw13.SlotsActs', WHERE WHAT IT READS IS OF BULK AT MOST 1048576: true; the input reads as it did. -/
def slotsActsUptoRow : OpenClaim := { program := "ytjkgmkkhjpcngaa", sum := "92a228444cdff84c33d274cbf7400530ced0dd91f2ab73cc507a09c58b3b0b88", func := "snicket/snicketlaw13.SlotsActs", spec := "slotsActs", unfollowed := true, recurses := true, apart := false, narrowed := true }
def SlotsActsUptoSaid : Prop := slotsActsUptoRow.holds Try.pinned (OpenSpec.upto slotsActsSpec)

/-- 'snicketlaw13.SlotsNil', WHERE WHAT IT READS IS OF BULK AT MOST 1048576: true; the input reads as it did. -/
def slotsNilUptoRow : OpenClaim := { program := "ytjkgmkkhjpcngaa", sum := "92a228444cdff84c33d274cbf7400530ced0dd91f2ab73cc507a09c58b3b0b88", func := "snicket/snicketlaw13.SlotsNil", spec := "slotsNil", unfollowed := true, recurses := true, apart := false, narrowed := true }
def SlotsNilUptoSaid : Prop := slotsNilUptoRow.holds Try.pinned (OpenSpec.upto slotsNilSpec)

end Rows
end Go.Proofs.Ytjkgmkkhjpcngaa

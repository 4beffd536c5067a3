/-
  No cell of these rows narrows 'for every input' (looked for: loops, veiled, ifaces, maps, wideKeys, modest, calm, conditions, laid).
  DERIVED. THE GIVEN ROWS OF THIS SEAT. 3 by the template 'for every input the law returns true; each argument reads behind the call as it read before'; 0 by the template 'total and deterministic' (their statements: YtfmfnfmhknlpbaaTotals.lean).
  GIVEN WITH THE SEED: the statements are not yours to turn. If you find one false, say at which input.
  Laid BY PROGRAM, IN A SANDBOX (cutbox-rows.mjs): the forced cells as the released guide's own fill.sh prints them over the translation 632686d3f98ec6f1… (all of the seat's roots in one cut). By AI agents, Wed Nov 11 2026. No macro, syntax, notation, axiom, sorry.
-/
import Derived.Test.YtfmfnfmhknlpbaaChecked
import GoSem.Claim
import GoSem.ClaimJoined
import GoSem.ClaimMapViews
import Derived.JoinedTies
import Derived.KernelRfl
namespace Go.Proofs.Ytfmfnfmhknlpbaa
/- THE CELL 'sum', in the pinned program and in every row, IS THE sha256 OF THE DUMP (.gsa) THAT YtfmfnfmhknlpbaaProg.lean LOADS. Nothing in Lean hashes anything: it is a label: what it is worth is what the hold of that sum in a sandbox is worth. -/
noncomputable def Try.pinned : Pinned := { name := "ytfmfnfmhknlpbaa", sum := "632686d3f98ec6f15a22a7c8033942acaf52d8ca1b6533b54b48b2343039c64a", checked := Try.checked }
namespace Rows
def none {H : Type} : Left H := { results := [], args := [] }

/-- 'snicketlaw06.WireReads': WHATEVER THE INPUT: true; the input reads as it did. -/
def wireReadsSpec : ChangeSpec := { name := "wireReads", fn := fun _ => fun
  | [d] => { results := [.lit (.bool true)], args := [d] }
  | _ => none }
def wireReadsRow : OpenClaim := { program := "ytfmfnfmhknlpbaa", sum := "632686d3f98ec6f15a22a7c8033942acaf52d8ca1b6533b54b48b2343039c64a", func := "snicket/snicketlaw06.WireReads", spec := "wireReads", unfollowed := true, recurses := true, apart := false }
def WireReadsSaid : Prop := wireReadsRow.holds Try.pinned (OpenSpec.ofChange wireReadsSpec)

/-- ITS FALSE NEIGHBOUR: 'it returns false'. Refute it at one input. -/
def wireReadsWrong : ChangeSpec := { name := "wireReads", fn := fun _ => fun
  | [d] => { results := [.lit (.bool false)], args := [d] }
  | _ => none }
def WireReadsWrongFalsely : Prop := wireReadsRow.holds Try.pinned (OpenSpec.ofChange wireReadsWrong)

/-- 'snicketlaw17.AirNil': WHATEVER THE INPUT: true; the input reads as it did. -/
def airNilSpec : ChangeSpec := { name := "airNil", fn := fun _ => fun
  | [d1, d2, d3, d4] => { results := [.lit (.bool true)], args := [d1, d2, d3, d4] }
  | _ => none }
def airNilRow : OpenClaim := { program := "ytfmfnfmhknlpbaa", sum := "632686d3f98ec6f15a22a7c8033942acaf52d8ca1b6533b54b48b2343039c64a", func := "snicket/snicketlaw17.AirNil", spec := "airNil", unfollowed := true, recurses := true, apart := false }
def AirNilSaid : Prop := airNilRow.holds Try.pinned (OpenSpec.ofChange airNilSpec)

/-- ITS FALSE NEIGHBOUR: 'it returns false'. Refute it at one input. -/
def airNilWrong : ChangeSpec := { name := "airNil", fn := fun _ => fun
  | [d1, d2, d3, d4] => { results := [.lit (.bool false)], args := [d1, d2, d3, d4] }
  | _ => none }
def AirNilWrongFalsely : Prop := airNilRow.holds Try.pinned (OpenSpec.ofChange airNilWrong)

/-- 'snicketlaw03.KnowNil': WHATEVER THE INPUT: true; the input reads as it did. -/
def knowNilSpec : ChangeSpec := { name := "knowNil", fn := fun _ => fun
  | [d] => { results := [.lit (.bool true)], args := [d] }
  | _ => none }
def knowNilRow : OpenClaim := { program := "ytfmfnfmhknlpbaa", sum := "632686d3f98ec6f15a22a7c8033942acaf52d8ca1b6533b54b48b2343039c64a", func := "snicket/snicketlaw03.KnowNil", spec := "knowNil", unfollowed := true, recurses := true, apart := false }
def KnowNilSaid : Prop := knowNilRow.holds Try.pinned (OpenSpec.ofChange knowNilSpec)

/-- ITS FALSE NEIGHBOUR: 'it returns false'. Refute it at one input. -/
def knowNilWrong : ChangeSpec := { name := "knowNil", fn := fun _ => fun
  | [d] => { results := [.lit (.bool false)], args := [d] }
  | _ => none }
def KnowNilWrongFalsely : Prop := knowNilRow.holds Try.pinned (OpenSpec.ofChange knowNilWrong)

/- THE SECOND FORM. 'bulk': how many values and letters a reading holds, each counted each time it is reached (what is shared counts as often as it is met; a slice's spare places count too). A statement '..UptoSaid' is the law's where the arguments, and the package variables that the reading takes, are together of bulk at most 1048576: NARROWER than '..Said'. Prove '..Said' where nothing that the law and all that it calls make is longer than what came in: it says more and counts as full. Else prove '..UptoSaid'. A law counts once. -/
mutual
def uptoBulk {H : Type} : DataW H → Nat
  | .lit (.string bytes) => bytes.length + 1
  | .lit _ => 1
  | .nil => 1
  | .ptr d => uptoBulk d + 1
  | .slice elems spare => uptoBulkAll elems + uptoBulkAll spare + 1
  | .agg parts => uptoBulkAll parts + 1
  | .iface _ d => uptoBulk d + 1
  | .map entries => uptoBulkEntries entries + 1
  | .held _ => 1
def uptoBulkAll {H : Type} : List (DataW H) → Nat
  | [] => 0
  | d :: r => uptoBulk d + uptoBulkAll r
def uptoBulkEntries {H : Type} : List (Lit × DataW H) → Nat
  | [] => 0
  | x :: r => uptoBulkEntry x + uptoBulkEntries r
def uptoBulkEntry {H : Type} : Lit × DataW H → Nat
  | (.string bytes, d) => bytes.length + uptoBulk d + 1
  | (_, d) => uptoBulk d + 1
 end
def uptoSmall : (H : Type) → List (DataW H) → Bool := fun _ ds => decide (uptoBulkAll ds ≤ 1048576)
def OpenSpec.upto (s : _root_.Go.ChangeSpec) : _root_.Go.OpenSpec := { _root_.Go.OpenSpec.ofChange s with cond := some uptoSmall }

/-- 'snicketlaw06.WireReads', WHERE WHAT IT READS IS OF BULK AT MOST 1048576: true; the input reads as it did. -/
def wireReadsUptoRow : OpenClaim := { program := "ytfmfnfmhknlpbaa", sum := "632686d3f98ec6f15a22a7c8033942acaf52d8ca1b6533b54b48b2343039c64a", func := "snicket/snicketlaw06.WireReads", spec := "wireReads", unfollowed := true, recurses := true, apart := false, narrowed := true }
def WireReadsUptoSaid : Prop := wireReadsUptoRow.holds Try.pinned (OpenSpec.upto wireReadsSpec)

/-- 'snicketlaw17.AirNil', WHERE WHAT IT READS IS OF BULK AT MOST 1048576: true; the input reads as it did. -/
def airNilUptoRow : OpenClaim := { program := "ytfmfnfmhknlpbaa", sum := "632686d3f98ec6f15a22a7c8033942acaf52d8ca1b6533b54b48b2343039c64a", func := "snicket/snicketlaw17.AirNil", spec := "airNil", unfollowed := true, recurses := true, apart := false, narrowed := true }
def AirNilUptoSaid : Prop := airNilUptoRow.holds Try.pinned (OpenSpec.upto airNilSpec)

/-- 'snicketlaw03.KnowNil', WHERE WHAT IT READS IS OF BULK AT MOST 1048576: true; the input reads as it did. -/
def knowNilUptoRow : OpenClaim := { program := "ytfmfnfmhknlpbaa", sum := "632686d3f98ec6f15a22a7c8033942acaf52d8ca1b6533b54b48b2343039c64a", func := "snicket/snicketlaw03.KnowNil", spec := "knowNil", unfollowed := true, recurses := true, apart := false, narrowed := true }
def KnowNilUptoSaid : Prop := knowNilUptoRow.holds Try.pinned (OpenSpec.upto knowNilSpec)

end Rows
end Go.Proofs.Ytfmfnfmhknlpbaa

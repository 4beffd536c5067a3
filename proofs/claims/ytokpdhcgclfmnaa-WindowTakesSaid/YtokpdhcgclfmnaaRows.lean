/-
  No cell of these rows narrows 'for every input' (looked for: loops, veiled, ifaces, maps, wideKeys, modest, calm, conditions, laid).
  DERIVED. THE GIVEN ROWS OF THIS SEAT. 6 by the template 'for every input the law returns true; each argument reads behind the call as it read before'; 0 by the template 'total and deterministic' (their statements: YtokpdhcgclfmnaaTotals.lean).
  GIVEN WITH THE SEED: the statements are not yours to turn. If you find one false, say at which input.
  Laid BY PROGRAM, IN A SANDBOX (cutbox-rows.mjs): the forced cells as the released guide's own fill.sh prints them over the translation 705d6ca698814f39… (all of the seat's roots in one cut). By AI agents, Wed Nov 11 2026. No macro, syntax, notation, axiom, sorry.
-/
import Derived.Test.YtokpdhcgclfmnaaChecked
import GoSem.Claim
import GoSem.ClaimJoined
import GoSem.ClaimMapViews
import Derived.JoinedTies
import Derived.KernelRfl
namespace Go.Proofs.Ytokpdhcgclfmnaa
/- THE CELL 'sum', in the pinned program and in every row, IS THE sha256 OF THE DUMP (.gsa) THAT YtokpdhcgclfmnaaProg.lean LOADS. Nothing in Lean hashes anything: it is a label: what it is worth is what the hold of that sum in a sandbox is worth. -/
noncomputable def Try.pinned : Pinned := { name := "ytokpdhcgclfmnaa", sum := "705d6ca698814f398dba97c049cc553b79ab551be966d650fc0cfc21fcf7e06c", checked := Try.checked }
namespace Rows
def none {H : Type} : Left H := { results := [], args := [] }

/-- 'snicketlaw22.RoamAddresses': WHATEVER THE INPUT: true; the input reads as it did. -/
def roamAddressesSpec : ChangeSpec := { name := "roamAddresses", fn := fun _ => fun
  | [d1, d2, d3] => { results := [.lit (.bool true)], args := [d1, d2, d3] }
  | _ => none }
def roamAddressesRow : OpenClaim := { program := "ytokpdhcgclfmnaa", sum := "705d6ca698814f398dba97c049cc553b79ab551be966d650fc0cfc21fcf7e06c", func := "snicket/snicketlaw22.RoamAddresses", spec := "roamAddresses", apart := false }
def RoamAddressesSaid : Prop := roamAddressesRow.holds Try.pinned (OpenSpec.ofChange roamAddressesSpec)

/-- ITS FALSE NEIGHBOUR: 'it returns false'. Refute it at one input. -/
def roamAddressesWrong : ChangeSpec := { name := "roamAddresses", fn := fun _ => fun
  | [d1, d2, d3] => { results := [.lit (.bool false)], args := [d1, d2, d3] }
  | _ => none }
def RoamAddressesWrongFalsely : Prop := roamAddressesRow.holds Try.pinned (OpenSpec.ofChange roamAddressesWrong)

/-- 'snicketlaw09.RingActs': WHATEVER THE INPUT: true; the input reads as it did. -/
def ringActsSpec : ChangeSpec := { name := "ringActs", fn := fun _ => fun
  | [d1, d2] => { results := [.lit (.bool true)], args := [d1, d2] }
  | _ => none }
def ringActsRow : OpenClaim := { program := "ytokpdhcgclfmnaa", sum := "705d6ca698814f398dba97c049cc553b79ab551be966d650fc0cfc21fcf7e06c", func := "snicket/snicketlaw09.RingActs", spec := "ringActs", apart := false }
def RingActsSaid : Prop := ringActsRow.holds Try.pinned (OpenSpec.ofChange ringActsSpec)

/-- ITS FALSE NEIGHBOUR: 'it returns false'. Refute it at one input. -/
def ringActsWrong : ChangeSpec := { name := "ringActs", fn := fun _ => fun
  | [d1, d2] => { results := [.lit (.bool false)], args := [d1, d2] }
  | _ => none }
def RingActsWrongFalsely : Prop := ringActsRow.holds Try.pinned (OpenSpec.ofChange ringActsWrong)

/-- 'snicketlaw09.RingNil': WHATEVER THE INPUT: true; the input reads as it did. -/
def ringNilSpec : ChangeSpec := { name := "ringNil", fn := fun _ => fun
  | [d] => { results := [.lit (.bool true)], args := [d] }
  | _ => none }
def ringNilRow : OpenClaim := { program := "ytokpdhcgclfmnaa", sum := "705d6ca698814f398dba97c049cc553b79ab551be966d650fc0cfc21fcf7e06c", func := "snicket/snicketlaw09.RingNil", spec := "ringNil", apart := false }
def RingNilSaid : Prop := ringNilRow.holds Try.pinned (OpenSpec.ofChange ringNilSpec)

/-- ITS FALSE NEIGHBOUR: 'it returns false'. Refute it at one input. -/
def ringNilWrong : ChangeSpec := { name := "ringNil", fn := fun _ => fun
  | [d] => { results := [.lit (.bool false)], args := [d] }
  | _ => none }
def RingNilWrongFalsely : Prop := ringNilRow.holds Try.pinned (OpenSpec.ofChange ringNilWrong)

/-- 'snicketlaw07.WindowRow': WHATEVER THE INPUT: true; the input reads as it did. -/
def windowRowSpec : ChangeSpec := { name := "windowRow", fn := fun _ => fun
  | [d1, d2, d3] => { results := [.lit (.bool true)], args := [d1, d2, d3] }
  | _ => none }
def windowRowRow : OpenClaim := { program := "ytokpdhcgclfmnaa", sum := "705d6ca698814f398dba97c049cc553b79ab551be966d650fc0cfc21fcf7e06c", func := "snicket/snicketlaw07.WindowRow", spec := "windowRow", apart := false }
def WindowRowSaid : Prop := windowRowRow.holds Try.pinned (OpenSpec.ofChange windowRowSpec)

/-- ITS FALSE NEIGHBOUR: 'it returns false'. Refute it at one input. -/
def windowRowWrong : ChangeSpec := { name := "windowRow", fn := fun _ => fun
  | [d1, d2, d3] => { results := [.lit (.bool false)], args := [d1, d2, d3] }
  | _ => none }
def WindowRowWrongFalsely : Prop := windowRowRow.holds Try.pinned (OpenSpec.ofChange windowRowWrong)

/-- 'snicketlaw07.WindowTakes': WHATEVER THE INPUT: true; the input reads as it did. -/
def windowTakesSpec : ChangeSpec := { name := "windowTakes", fn := fun _ => fun
  | [d1, d2] => { results := [.lit (.bool true)], args := [d1, d2] }
  | _ => none }
def windowTakesRow : OpenClaim := { program := "ytokpdhcgclfmnaa", sum := "705d6ca698814f398dba97c049cc553b79ab551be966d650fc0cfc21fcf7e06c", func := "snicket/snicketlaw07.WindowTakes", spec := "windowTakes", apart := false }
def WindowTakesSaid : Prop := windowTakesRow.holds Try.pinned (OpenSpec.ofChange windowTakesSpec)

/-- ITS FALSE NEIGHBOUR: 'it returns false'. Refute it at one input. -/
def windowTakesWrong : ChangeSpec := { name := "windowTakes", fn := fun _ => fun
  | [d1, d2] => { results := [.lit (.bool false)], args := [d1, d2] }
  | _ => none }
def WindowTakesWrongFalsely : Prop := windowTakesRow.holds Try.pinned (OpenSpec.ofChange windowTakesWrong)

/-- 'snicketlaw07.WindowNever': WHATEVER THE INPUT: true; the input reads as it did. -/
def windowNeverSpec : ChangeSpec := { name := "windowNever", fn := fun _ => fun
  | [d1, d2] => { results := [.lit (.bool true)], args := [d1, d2] }
  | _ => none }
def windowNeverRow : OpenClaim := { program := "ytokpdhcgclfmnaa", sum := "705d6ca698814f398dba97c049cc553b79ab551be966d650fc0cfc21fcf7e06c", func := "snicket/snicketlaw07.WindowNever", spec := "windowNever", apart := false }
def WindowNeverSaid : Prop := windowNeverRow.holds Try.pinned (OpenSpec.ofChange windowNeverSpec)

/-- ITS FALSE NEIGHBOUR: 'it returns false'. Refute it at one input. -/
def windowNeverWrong : ChangeSpec := { name := "windowNever", fn := fun _ => fun
  | [d1, d2] => { results := [.lit (.bool false)], args := [d1, d2] }
  | _ => none }
def WindowNeverWrongFalsely : Prop := windowNeverRow.holds Try.pinned (OpenSpec.ofChange windowNeverWrong)

/- THE SECOND FORM. 'bulk': how many values and letters a reading holds, each counted each time it is reached (what is shared counts as often as it is met; a slice's spare places count too). A statement '..UptoSaid' is the law's where the arguments, and the package variables that the reading takes, are together of bulk at most 1048576: NARROWER than '..Said'. Prove '..Said' where nothing that the law and all that it calls make is longer than what came in: it says more and counts as full. Else prove '..UptoSaid'. A law counts once. -/
mutual
def uptoBulk {H : Type} : DataW H → Nat
  | .lit (.string bytes) => bytes.length + 1
  | .lit _ => 1
  | .nil => 1
  | .ptr d => uptoBulk d + 1
  | .slice elems spare => uptoBulkAll elems + uptoBulkAll spare + 1
  | .agg parts => uptoBulkAll parts + 1
  | .iface _ d => uptoBulk d + 1
  | .map entries => uptoBulkEntries entries + 1
  | .held _ => 1
def uptoBulkAll {H : Type} : List (DataW H) → Nat
  | [] => 0
  | d :: r => uptoBulk d + uptoBulkAll r
def uptoBulkEntries {H : Type} : List (Lit × DataW H) → Nat
  | [] => 0
  | x :: r => uptoBulkEntry x + uptoBulkEntries r
def uptoBulkEntry {H : Type} : Lit × DataW H → Nat
  | (.string bytes, d) => bytes.length + uptoBulk d + 1
  | (_, d) => uptoBulk d + 1
 end
def uptoSmall : (H : Type) → List (DataW H) → Bool := fun _ ds => decide (uptoBulkAll ds ≤ 1048576)
def OpenSpec.upto (s : _root_.Go.ChangeSpec) : _root_.Go.OpenSpec := { _root_.Go.OpenSpec.ofChange s with cond := some uptoSmall }

/-- 'snicketlaw22.RoamAddresses', WHERE WHAT IT READS IS OF BULK AT MOST 1048576: true; the input reads as it did. -/
def roamAddressesUptoRow : OpenClaim := { program := "ytokpdhcgclfmnaa", sum := "705d6ca698814f398dba97c049cc553b79ab551be966d650fc0cfc21fcf7e06c", func := "snicket/snicketlaw22.RoamAddresses", spec := "roamAddresses", apart := false, narrowed := true }
def RoamAddressesUptoSaid : Prop := roamAddressesUptoRow.holds Try.pinned (OpenSpec.upto roamAddressesSpec)

/-- 'snicketlaw09.RingActs', WHERE WHAT IT READS IS OF BULK AT MOST 1048576: true; the input reads as it did. -/
def ringActsUptoRow : OpenClaim := { program := "ytokpdhcgclfmnaa", sum := "705d6ca698814f398dba97c049cc553b79ab551be966d650fc0cfc21fcf7e06c", func := "snicket/snicketlaw09.RingActs", spec := "ringActs", apart := false, narrowed := true }
def RingActsUptoSaid : Prop := ringActsUptoRow.holds Try.pinned (OpenSpec.upto ringActsSpec)

/-- 'snicketlaw09.RingNil', WHERE WHAT IT READS IS OF BULK AT MOST 1048576: true; the input reads as it did. -/
def ringNilUptoRow : OpenClaim := { program := "ytokpdhcgclfmnaa", sum := "705d6ca698814f398dba97c049cc553b79ab551be966d650fc0cfc21fcf7e06c", func := "snicket/snicketlaw09.RingNil", spec := "ringNil", apart := false, narrowed := true }
def RingNilUptoSaid : Prop := ringNilUptoRow.holds Try.pinned (OpenSpec.upto ringNilSpec)

/-- 'snicketlaw07.WindowRow', WHERE WHAT IT READS IS OF BULK AT MOST 1048576: true; the input reads as it did. -/
def windowRowUptoRow : OpenClaim := { program := "ytokpdhcgclfmnaa", sum := "705d6ca698814f398dba97c049cc553b79ab551be966d650fc0cfc21fcf7e06c", func := "snicket/snicketlaw07.WindowRow", spec := "windowRow", apart := false, narrowed := true }
def WindowRowUptoSaid : Prop := windowRowUptoRow.holds Try.pinned (OpenSpec.upto windowRowSpec)

/-- 'snicketlaw07.WindowTakes', WHERE WHAT IT READS IS OF BULK AT MOST 1048576: true; the input reads as it did. -/
def windowTakesUptoRow : OpenClaim := { program := "ytokpdhcgclfmnaa", sum := "705d6ca698814f398dba97c049cc553b79ab551be966d650fc0cfc21fcf7e06c", func := "snicket/snicketlaw07.WindowTakes", spec := "windowTakes", apart := false, narrowed := true }
def WindowTakesUptoSaid : Prop := windowTakesUptoRow.holds Try.pinned (OpenSpec.upto windowTakesSpec)

/-- 'snicketlaw07.WindowNever', WHERE WHAT IT READS IS OF BULK AT MOST 1048576: true; the input reads as it did. -/
def windowNeverUptoRow : OpenClaim := { program := "ytokpdhcgclfmnaa", sum := "705d6ca698814f398dba97c049cc553b79ab551be966d650fc0cfc21fcf7e06c", func := "snicket/snicketlaw07.WindowNever", spec := "windowNever", apart := false, narrowed := true }
def WindowNeverUptoSaid : Prop := windowNeverUptoRow.holds Try.pinned (OpenSpec.upto windowNeverSpec)

end Rows
end Go.Proofs.Ytokpdhcgclfmnaa

/-
  DERIVED. GIVEN WITH THE SEED: THE CARDS: each row of YtjkgmkkhjpcngaaDoorRows.lean that lists a variable, with what it lists TIED to the program's text (the seventh form; the later family's looks); each row that meets fmt, with fmt's text TOLD by the authors' own Lean function (tested against real Go, not proved from fmt's source: count such statements apart). THE CARD IS WHAT COUNTS. Prove the row's statement (the work); the ties are given (YtjkgmkkhjpcngaaDoorTie.lean); close each card by the builder's one call (the guide's Derived/Test/ToyasCard.lean, 'card_holds'). Laid BY PROGRAM, IN A SANDBOX (cutbox-door.mjs). By AI agents, Wed Nov 11 2026. No macro, syntax, notation, axiom, sorry.
-/
import Derived.Test.YtjkgmkkhjpcngaaDoorRows
import GoSem.ClaimSeven
namespace Go.Proofs.YtjkgmkkhjpcngaaDoor
namespace Rows

/-- THE TIED CARD OF 'snicketlaw01.NumReads'. -/
def numReadsCard : Claim7 := { stood := { row := numReadsRow, standIns := [], harness := (true, "30e5146775801ffcf6668b580fa8080efb826836bfc0b918f6a7e3488418aba9"), looks := false }, kinds := [], alts := [], laidByText := true, laidKinds := [.data, .data, .data], laidTests := true, laidLooks := .later }
def NumReadsCardSaid : Prop := Claim7.holds Tryd.pinned (.plain (OpenSpec.ofChange numReadsSpec)) numReadsCard

/-- THE TIED CARD OF 'snicketlaw01.NumPrints'. -/
def numPrintsCard : Claim7 := { stood := { row := numPrintsRow, standIns := [], harness := (true, "30e5146775801ffcf6668b580fa8080efb826836bfc0b918f6a7e3488418aba9"), looks := false }, kinds := [], alts := [], laidByText := true, laidKinds := [.data, .data, .data], laidTests := true, laidLooks := .later }
def NumPrintsCardSaid : Prop := Claim7.holds Tryd.pinned (.plain (OpenSpec.ofChange numPrintsSpec)) numPrintsCard

/-- THE TIED CARD OF 'snicketlaw04.AddrHas'. -/
def addrHasCard : Claim7 := { stood := { row := addrHasRow, standIns := [], harness := (true, "30e5146775801ffcf6668b580fa8080efb826836bfc0b918f6a7e3488418aba9"), looks := false }, kinds := [], alts := [], laidByText := true, laidKinds := [.data, .data, .data], laidTests := true, laidLooks := .later }
def AddrHasCardSaid : Prop := Claim7.holds Tryd.pinned (.plain (OpenSpec.ofChange addrHasSpec)) addrHasCard

/-- THE TIED CARD OF 'snicketlaw04.AddrWithin'. -/
def addrWithinCard : Claim7 := { stood := { row := addrWithinRow, standIns := [], harness := (true, "30e5146775801ffcf6668b580fa8080efb826836bfc0b918f6a7e3488418aba9"), looks := false }, kinds := [], alts := [], laidByText := true, laidKinds := [.data, .data, .data], laidTests := true, laidLooks := .later }
def AddrWithinCardSaid : Prop := Claim7.holds Tryd.pinned (.plain (OpenSpec.ofChange addrWithinSpec)) addrWithinCard

/-- THE TIED CARD OF 'snicketlaw14.SourceGives'. -/
def sourceGivesCard : Claim7 := { stood := { row := sourceGivesRow, standIns := [], harness := (true, "30e5146775801ffcf6668b580fa8080efb826836bfc0b918f6a7e3488418aba9"), looks := false }, kinds := [], alts := [], laidByText := true, laidKinds := [.data, .data, .data], laidTests := true, laidLooks := .later }
def SourceGivesCardSaid : Prop := Claim7.holds Tryd.pinned (.plain (OpenSpec.ofChange sourceGivesSpec)) sourceGivesCard

/-- THE TIED CARD OF 'snicketlaw14.SourceNil'. -/
def sourceNilCard : Claim7 := { stood := { row := sourceNilRow, standIns := [], harness := (true, "30e5146775801ffcf6668b580fa8080efb826836bfc0b918f6a7e3488418aba9"), looks := false }, kinds := [], alts := [], laidByText := true, laidKinds := [.data, .data, .data], laidTests := true, laidLooks := .later }
def SourceNilCardSaid : Prop := Claim7.holds Tryd.pinned (.plain (OpenSpec.ofChange sourceNilSpec)) sourceNilCard

/-- THE SECOND FORM's CARD OF 'snicketlaw01.NumReads'. -/
def numReadsUptoCard : Claim7 := { stood := { row := numReadsUptoRow, standIns := [], harness := (true, "30e5146775801ffcf6668b580fa8080efb826836bfc0b918f6a7e3488418aba9"), looks := false }, kinds := [], alts := [], laidByText := true, laidKinds := [.data, .data, .data], laidTests := true, laidLooks := .later }
def NumReadsUptoCardSaid : Prop := Claim7.holds Tryd.pinned (.plain (OpenSpec.upto numReadsSpec)) numReadsUptoCard

/-- THE SECOND FORM's CARD OF 'snicketlaw01.NumPrints'. -/
def numPrintsUptoCard : Claim7 := { stood := { row := numPrintsUptoRow, standIns := [], harness := (true, "30e5146775801ffcf6668b580fa8080efb826836bfc0b918f6a7e3488418aba9"), looks := false }, kinds := [], alts := [], laidByText := true, laidKinds := [.data, .data, .data], laidTests := true, laidLooks := .later }
def NumPrintsUptoCardSaid : Prop := Claim7.holds Tryd.pinned (.plain (OpenSpec.upto numPrintsSpec)) numPrintsUptoCard

/-- THE SECOND FORM's CARD OF 'snicketlaw04.AddrHas'. -/
def addrHasUptoCard : Claim7 := { stood := { row := addrHasUptoRow, standIns := [], harness := (true, "30e5146775801ffcf6668b580fa8080efb826836bfc0b918f6a7e3488418aba9"), looks := false }, kinds := [], alts := [], laidByText := true, laidKinds := [.data, .data, .data], laidTests := true, laidLooks := .later }
def AddrHasUptoCardSaid : Prop := Claim7.holds Tryd.pinned (.plain (OpenSpec.upto addrHasSpec)) addrHasUptoCard

/-- THE SECOND FORM's CARD OF 'snicketlaw04.AddrWithin'. -/
def addrWithinUptoCard : Claim7 := { stood := { row := addrWithinUptoRow, standIns := [], harness := (true, "30e5146775801ffcf6668b580fa8080efb826836bfc0b918f6a7e3488418aba9"), looks := false }, kinds := [], alts := [], laidByText := true, laidKinds := [.data, .data, .data], laidTests := true, laidLooks := .later }
def AddrWithinUptoCardSaid : Prop := Claim7.holds Tryd.pinned (.plain (OpenSpec.upto addrWithinSpec)) addrWithinUptoCard

/-- THE SECOND FORM's CARD OF 'snicketlaw14.SourceGives'. -/
def sourceGivesUptoCard : Claim7 := { stood := { row := sourceGivesUptoRow, standIns := [], harness := (true, "30e5146775801ffcf6668b580fa8080efb826836bfc0b918f6a7e3488418aba9"), looks := false }, kinds := [], alts := [], laidByText := true, laidKinds := [.data, .data, .data], laidTests := true, laidLooks := .later }
def SourceGivesUptoCardSaid : Prop := Claim7.holds Tryd.pinned (.plain (OpenSpec.upto sourceGivesSpec)) sourceGivesUptoCard

/-- THE SECOND FORM's CARD OF 'snicketlaw14.SourceNil'. -/
def sourceNilUptoCard : Claim7 := { stood := { row := sourceNilUptoRow, standIns := [], harness := (true, "30e5146775801ffcf6668b580fa8080efb826836bfc0b918f6a7e3488418aba9"), looks := false }, kinds := [], alts := [], laidByText := true, laidKinds := [.data, .data, .data], laidTests := true, laidLooks := .later }
def SourceNilUptoCardSaid : Prop := Claim7.holds Tryd.pinned (.plain (OpenSpec.upto sourceNilSpec)) sourceNilUptoCard
end Rows
end Go.Proofs.YtjkgmkkhjpcngaaDoor

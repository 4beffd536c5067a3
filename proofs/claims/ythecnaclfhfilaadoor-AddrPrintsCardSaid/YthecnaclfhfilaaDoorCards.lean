/-
  DERIVED. GIVEN WITH THE SEED: THE CARDS: each row of YthecnaclfhfilaaDoorRows.lean that lists a variable, with what it lists TIED to the program's text (the seventh form; the later family's looks); each row that meets fmt, with fmt's text TOLD by the authors' own Lean function (tested against real Go, not proved from fmt's source: count such statements apart). THE CARD IS WHAT COUNTS. Prove the row's statement (the work); the ties are given (YthecnaclfhfilaaDoorTie.lean); close each card by the builder's one call (the guide's Derived/Test/ToyasCard.lean, 'card_holds'). Laid BY PROGRAM, IN A SANDBOX (cutbox-door.mjs). By AI agents, Wed Nov 11 2026. No macro, syntax, notation, axiom, sorry.
-/
import Derived.Test.YthecnaclfhfilaaDoorRows
import GoSem.ClaimSeven
namespace Go.Proofs.YthecnaclfhfilaaDoor
namespace Rows

/-- THE TIED CARD OF 'snicketlaw04.AddrTexts'. -/
def addrTextsCard : Claim7 := { stood := { row := addrTextsRow, standIns := [], harness := (true, "1c13f6778641fbd9339352b0fdcecd8ec4d825a2d7a48c39a6f6d5a1a29be5e6"), looks := false }, kinds := [], alts := [], laidByText := true, laidKinds := [.data, .data, .data, .data, .pinned], laidTests := true, laidLooks := .later }
def AddrTextsCardSaid : Prop := Claim7.holds Tryd.pinned (.plain (OpenSpec.ofChange addrTextsSpec)) addrTextsCard

/-- THE TIED CARD OF 'snicketlaw04.AddrPrints'. -/
def addrPrintsCard : Claim7 := { stood := { row := addrPrintsRow, standIns := [], harness := (true, "1c13f6778641fbd9339352b0fdcecd8ec4d825a2d7a48c39a6f6d5a1a29be5e6"), looks := false }, kinds := [], alts := [], laidByText := true, laidKinds := [.data, .data, .data, .data, .pinned], laidTests := true, laidLooks := .later }
def AddrPrintsCardSaid : Prop := Claim7.holds Tryd.pinned (.plain (OpenSpec.ofChange addrPrintsSpec)) addrPrintsCard

/-- THE SECOND FORM's CARD OF 'snicketlaw04.AddrTexts'. -/
def addrTextsUptoCard : Claim7 := { stood := { row := addrTextsUptoRow, standIns := [], harness := (true, "1c13f6778641fbd9339352b0fdcecd8ec4d825a2d7a48c39a6f6d5a1a29be5e6"), looks := false }, kinds := [], alts := [], laidByText := true, laidKinds := [.data, .data, .data, .data, .pinned], laidTests := true, laidLooks := .later }
def AddrTextsUptoCardSaid : Prop := Claim7.holds Tryd.pinned (.plain (OpenSpec.upto addrTextsSpec)) addrTextsUptoCard

/-- THE SECOND FORM's CARD OF 'snicketlaw04.AddrPrints'. -/
def addrPrintsUptoCard : Claim7 := { stood := { row := addrPrintsUptoRow, standIns := [], harness := (true, "1c13f6778641fbd9339352b0fdcecd8ec4d825a2d7a48c39a6f6d5a1a29be5e6"), looks := false }, kinds := [], alts := [], laidByText := true, laidKinds := [.data, .data, .data, .data, .pinned], laidTests := true, laidLooks := .later }
def AddrPrintsUptoCardSaid : Prop := Claim7.holds Tryd.pinned (.plain (OpenSpec.upto addrPrintsSpec)) addrPrintsUptoCard
end Rows
end Go.Proofs.YthecnaclfhfilaaDoor

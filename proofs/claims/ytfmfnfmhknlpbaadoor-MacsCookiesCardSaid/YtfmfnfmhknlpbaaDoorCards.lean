/-
  DERIVED. GIVEN WITH THE SEED: THE CARDS: each row of YtfmfnfmhknlpbaaDoorRows.lean that lists a variable, with what it lists TIED to the program's text (the seventh form; the later family's looks); each row that meets fmt, with fmt's text TOLD by the authors' own Lean function (tested against real Go, not proved from fmt's source: count such statements apart). THE CARD IS WHAT COUNTS. Prove the row's statement (the work); the ties are given (YtfmfnfmhknlpbaaDoorTie.lean); close each card by the builder's one call (the guide's Derived/Test/ToyasCard.lean, 'card_holds'). Laid BY PROGRAM, IN A SANDBOX (cutbox-door.mjs). By AI agents, Wed Nov 11 2026. No macro, syntax, notation, axiom, sorry.
-/
import Derived.Test.YtfmfnfmhknlpbaaDoorRows
import GoSem.ClaimSeven
namespace Go.Proofs.YtfmfnfmhknlpbaaDoor
namespace Rows

/-- THE TIED CARD OF 'snicketlaw02.TermAgrees'. -/
def termAgreesCard : Claim7 := { stood := { row := termAgreesRow, standIns := [], harness := (true, "930d25a477c96f389e89f87c054980d1a3975a3b6dfd926860a01f7377118f60"), looks := false }, kinds := [], alts := [], laidByText := true, laidKinds := [.data, .data, .data], laidTests := true, laidLooks := .later }
def TermAgreesCardSaid : Prop := Claim7.holds Tryd.pinned (.plain (OpenSpec.ofChange termAgreesSpec)) termAgreesCard

/-- THE TIED CARD OF 'snicketlaw02.TermMakes'. -/
def termMakesCard : Claim7 := { stood := { row := termMakesRow, standIns := [], harness := (true, "930d25a477c96f389e89f87c054980d1a3975a3b6dfd926860a01f7377118f60"), looks := false }, kinds := [], alts := [], laidByText := true, laidKinds := [.data, .data, .data], laidTests := true, laidLooks := .later }
def TermMakesCardSaid : Prop := Claim7.holds Tryd.pinned (.plain (OpenSpec.ofChange termMakesSpec)) termMakesCard

/-- THE TIED CARD OF 'snicketlaw02.TermOpens'. -/
def termOpensCard : Claim7 := { stood := { row := termOpensRow, standIns := [], harness := (true, "930d25a477c96f389e89f87c054980d1a3975a3b6dfd926860a01f7377118f60"), looks := false }, kinds := [], alts := [], laidByText := true, laidKinds := [.data, .data, .data], laidTests := true, laidLooks := .later }
def TermOpensCardSaid : Prop := Claim7.holds Tryd.pinned (.plain (OpenSpec.ofChange termOpensSpec)) termOpensCard

/-- THE TIED CARD OF 'snicketlaw02.TermReads'. -/
def termReadsCard : Claim7 := { stood := { row := termReadsRow, standIns := [], harness := (true, "930d25a477c96f389e89f87c054980d1a3975a3b6dfd926860a01f7377118f60"), looks := false }, kinds := [], alts := [], laidByText := true, laidKinds := [.data, .data, .data], laidTests := true, laidLooks := .later }
def TermReadsCardSaid : Prop := Claim7.holds Tryd.pinned (.plain (OpenSpec.ofChange termReadsSpec)) termReadsCard

/-- THE TIED CARD OF 'snicketlaw11.MacsCookies'. -/
def macsCookiesCard : Claim7 := { stood := { row := macsCookiesRow, standIns := [], harness := (true, "930d25a477c96f389e89f87c054980d1a3975a3b6dfd926860a01f7377118f60"), looks := false }, kinds := [], alts := [], laidByText := true, laidKinds := [.data, .data, .data], laidTests := true, laidLooks := .later }
def MacsCookiesCardSaid : Prop := Claim7.holds Tryd.pinned (.plain (OpenSpec.ofChange macsCookiesSpec)) macsCookiesCard

/-- THE TIED CARD OF 'snicketlaw06.WirePrints'. -/
def wirePrintsCard : Claim7 := { stood := { row := wirePrintsRow, standIns := [], harness := (true, "930d25a477c96f389e89f87c054980d1a3975a3b6dfd926860a01f7377118f60"), looks := false }, kinds := [], alts := [], laidByText := true, laidKinds := [.data, .data, .data], laidTests := true, laidLooks := .later }
def WirePrintsCardSaid : Prop := Claim7.holds Tryd.pinned (.plain (OpenSpec.ofChange wirePrintsSpec)) wirePrintsCard

/-- THE TIED CARD OF 'snicketlaw12.PairNil'. -/
def pairNilCard : Claim7 := { stood := { row := pairNilRow, standIns := [], harness := (true, "930d25a477c96f389e89f87c054980d1a3975a3b6dfd926860a01f7377118f60"), looks := false }, kinds := [], alts := [], laidByText := true, laidKinds := [.data, .data, .data], laidTests := true, laidLooks := .later }
def PairNilCardSaid : Prop := Claim7.holds Tryd.pinned (.plain (OpenSpec.ofChange pairNilSpec)) pairNilCard

/-- THE SECOND FORM's CARD OF 'snicketlaw02.TermAgrees'. -/
def termAgreesUptoCard : Claim7 := { stood := { row := termAgreesUptoRow, standIns := [], harness := (true, "930d25a477c96f389e89f87c054980d1a3975a3b6dfd926860a01f7377118f60"), looks := false }, kinds := [], alts := [], laidByText := true, laidKinds := [.data, .data, .data], laidTests := true, laidLooks := .later }
def TermAgreesUptoCardSaid : Prop := Claim7.holds Tryd.pinned (.plain (OpenSpec.upto termAgreesSpec)) termAgreesUptoCard

/-- THE SECOND FORM's CARD OF 'snicketlaw02.TermMakes'. -/
def termMakesUptoCard : Claim7 := { stood := { row := termMakesUptoRow, standIns := [], harness := (true, "930d25a477c96f389e89f87c054980d1a3975a3b6dfd926860a01f7377118f60"), looks := false }, kinds := [], alts := [], laidByText := true, laidKinds := [.data, .data, .data], laidTests := true, laidLooks := .later }
def TermMakesUptoCardSaid : Prop := Claim7.holds Tryd.pinned (.plain (OpenSpec.upto termMakesSpec)) termMakesUptoCard

/-- THE SECOND FORM's CARD OF 'snicketlaw02.TermOpens'. -/
def termOpensUptoCard : Claim7 := { stood := { row := termOpensUptoRow, standIns := [], harness := (true, "930d25a477c96f389e89f87c054980d1a3975a3b6dfd926860a01f7377118f60"), looks := false }, kinds := [], alts := [], laidByText := true, laidKinds := [.data, .data, .data], laidTests := true, laidLooks := .later }
def TermOpensUptoCardSaid : Prop := Claim7.holds Tryd.pinned (.plain (OpenSpec.upto termOpensSpec)) termOpensUptoCard

/-- THE SECOND FORM's CARD OF 'snicketlaw02.TermReads'. -/
def termReadsUptoCard : Claim7 := { stood := { row := termReadsUptoRow, standIns := [], harness := (true, "930d25a477c96f389e89f87c054980d1a3975a3b6dfd926860a01f7377118f60"), looks := false }, kinds := [], alts := [], laidByText := true, laidKinds := [.data, .data, .data], laidTests := true, laidLooks := .later }
def TermReadsUptoCardSaid : Prop := Claim7.holds Tryd.pinned (.plain (OpenSpec.upto termReadsSpec)) termReadsUptoCard

/-- THE SECOND FORM's CARD OF 'snicketlaw11.MacsCookies'. -/
def macsCookiesUptoCard : Claim7 := { stood := { row := macsCookiesUptoRow, standIns := [], harness := (true, "930d25a477c96f389e89f87c054980d1a3975a3b6dfd926860a01f7377118f60"), looks := false }, kinds := [], alts := [], laidByText := true, laidKinds := [.data, .data, .data], laidTests := true, laidLooks := .later }
def MacsCookiesUptoCardSaid : Prop := Claim7.holds Tryd.pinned (.plain (OpenSpec.upto macsCookiesSpec)) macsCookiesUptoCard

/-- THE SECOND FORM's CARD OF 'snicketlaw06.WirePrints'. -/
def wirePrintsUptoCard : Claim7 := { stood := { row := wirePrintsUptoRow, standIns := [], harness := (true, "930d25a477c96f389e89f87c054980d1a3975a3b6dfd926860a01f7377118f60"), looks := false }, kinds := [], alts := [], laidByText := true, laidKinds := [.data, .data, .data], laidTests := true, laidLooks := .later }
def WirePrintsUptoCardSaid : Prop := Claim7.holds Tryd.pinned (.plain (OpenSpec.upto wirePrintsSpec)) wirePrintsUptoCard

/-- THE SECOND FORM's CARD OF 'snicketlaw12.PairNil'. -/
def pairNilUptoCard : Claim7 := { stood := { row := pairNilUptoRow, standIns := [], harness := (true, "930d25a477c96f389e89f87c054980d1a3975a3b6dfd926860a01f7377118f60"), looks := false }, kinds := [], alts := [], laidByText := true, laidKinds := [.data, .data, .data], laidTests := true, laidLooks := .later }
def PairNilUptoCardSaid : Prop := Claim7.holds Tryd.pinned (.plain (OpenSpec.upto pairNilSpec)) pairNilUptoCard
end Rows
end Go.Proofs.YtfmfnfmhknlpbaaDoor

/-
  DERIVED. GIVEN WITH THE SEED: THE CARDS: each row of YtcokjoidpnfjhaaGreatDoorRows.lean that lists a variable, with what it lists TIED to the program's text (the seventh form; the later family's looks); each row that meets fmt, with fmt's text TOLD by the authors' own Lean function (tested against real Go, not proved from fmt's source: count such statements apart). THE CARD IS WHAT COUNTS. Prove the row's statement (the work); the ties are given (YtcokjoidpnfjhaaGreatDoorTie.lean); close each card by the builder's one call (the guide's Derived/Test/ToyasCard.lean, 'card_holds'). Laid BY PROGRAM, IN A SANDBOX (cutbox-door.mjs). By AI agents, Wed Nov 11 2026. No macro, syntax, notation, axiom, sorry.
-/
import Derived.Test.YtcokjoidpnfjhaaGreatDoorRows
import GoSem.ClaimSeven
namespace Go.Proofs.YtcokjoidpnfjhaaGreatDoor
namespace Rows

/-- THE TIED CARD OF 'snicketlaw15.PeerNil'. -/
def peerNilCard : Claim7 := { stood := { row := peerNilRow, standIns := [], harness := (true, "c02ec65bf493ed49ac2b0b9352c7b9076a77224012b883943acf4bb17f5908a9"), looks := false }, kinds := [], alts := [], laidByText := true, laidKinds := [.data, .data, .data], laidTests := true, laidLooks := .later }
def PeerNilCardSaid : Prop := Claim7.holds Tryz.pinned (.plain (OpenSpec.ofChange peerNilSpec)) peerNilCard

/-- THE TIED CARD OF 'snicketlaw15.PeerAnswers'. -/
def peerAnswersCard : Claim7 := { stood := { row := peerAnswersRow, standIns := [], harness := (true, "c02ec65bf493ed49ac2b0b9352c7b9076a77224012b883943acf4bb17f5908a9"), looks := false }, kinds := [], alts := [], laidByText := true, laidKinds := [.data, .data, .data], laidTests := true, laidLooks := .later }
def PeerAnswersCardSaid : Prop := Claim7.holds Tryz.pinned (.plain (OpenSpec.ofChange peerAnswersSpec)) peerAnswersCard

/-- THE TIED CARD OF 'snicketlaw15.PeerConfigs'. -/
def peerConfigsCard : Claim7 := { stood := { row := peerConfigsRow, standIns := [], harness := (true, "c02ec65bf493ed49ac2b0b9352c7b9076a77224012b883943acf4bb17f5908a9"), looks := false }, kinds := [], alts := [], laidByText := true, laidKinds := [.data, .data, .data], laidTests := true, laidLooks := .later }
def PeerConfigsCardSaid : Prop := Claim7.holds Tryz.pinned (.plain (OpenSpec.ofChange peerConfigsSpec)) peerConfigsCard

/-- THE TIED CARD OF 'snicketlaw24.DumpGoes'. -/
def dumpGoesCard : Claim7 := { stood := { row := dumpGoesRow, standIns := [], harness := (true, "c02ec65bf493ed49ac2b0b9352c7b9076a77224012b883943acf4bb17f5908a9"), looks := false }, kinds := [], alts := [], laidByText := true, laidKinds := [.data, .data, .data], laidTests := true, laidLooks := .later }
def DumpGoesCardSaid : Prop := Claim7.holds Tryz.pinned (.plain (OpenSpec.ofChange dumpGoesSpec)) dumpGoesCard

/-- THE SECOND FORM's CARD OF 'snicketlaw15.PeerNil'. -/
def peerNilUptoCard : Claim7 := { stood := { row := peerNilUptoRow, standIns := [], harness := (true, "c02ec65bf493ed49ac2b0b9352c7b9076a77224012b883943acf4bb17f5908a9"), looks := false }, kinds := [], alts := [], laidByText := true, laidKinds := [.data, .data, .data], laidTests := true, laidLooks := .later }
def PeerNilUptoCardSaid : Prop := Claim7.holds Tryz.pinned (.plain (OpenSpec.upto peerNilSpec)) peerNilUptoCard

/-- THE SECOND FORM's CARD OF 'snicketlaw15.PeerAnswers'. -/
def peerAnswersUptoCard : Claim7 := { stood := { row := peerAnswersUptoRow, standIns := [], harness := (true, "c02ec65bf493ed49ac2b0b9352c7b9076a77224012b883943acf4bb17f5908a9"), looks := false }, kinds := [], alts := [], laidByText := true, laidKinds := [.data, .data, .data], laidTests := true, laidLooks := .later }
def PeerAnswersUptoCardSaid : Prop := Claim7.holds Tryz.pinned (.plain (OpenSpec.upto peerAnswersSpec)) peerAnswersUptoCard

/-- THE SECOND FORM's CARD OF 'snicketlaw15.PeerConfigs'. -/
def peerConfigsUptoCard : Claim7 := { stood := { row := peerConfigsUptoRow, standIns := [], harness := (true, "c02ec65bf493ed49ac2b0b9352c7b9076a77224012b883943acf4bb17f5908a9"), looks := false }, kinds := [], alts := [], laidByText := true, laidKinds := [.data, .data, .data], laidTests := true, laidLooks := .later }
def PeerConfigsUptoCardSaid : Prop := Claim7.holds Tryz.pinned (.plain (OpenSpec.upto peerConfigsSpec)) peerConfigsUptoCard

/-- THE SECOND FORM's CARD OF 'snicketlaw24.DumpGoes'. -/
def dumpGoesUptoCard : Claim7 := { stood := { row := dumpGoesUptoRow, standIns := [], harness := (true, "c02ec65bf493ed49ac2b0b9352c7b9076a77224012b883943acf4bb17f5908a9"), looks := false }, kinds := [], alts := [], laidByText := true, laidKinds := [.data, .data, .data], laidTests := true, laidLooks := .later }
def DumpGoesUptoCardSaid : Prop := Claim7.holds Tryz.pinned (.plain (OpenSpec.upto dumpGoesSpec)) dumpGoesUptoCard
end Rows
end Go.Proofs.YtcokjoidpnfjhaaGreatDoor

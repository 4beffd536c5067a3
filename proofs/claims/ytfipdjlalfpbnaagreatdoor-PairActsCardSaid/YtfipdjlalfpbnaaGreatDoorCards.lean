/-
  DERIVED. GIVEN WITH THE SEED: THE CARDS: each row of YtfipdjlalfpbnaaGreatDoorRows.lean that lists a variable, with what it lists TIED to the program's text (the seventh form; the later family's looks); each row that meets fmt, with fmt's text TOLD by the authors' own Lean function (tested against real Go, not proved from fmt's source: count such statements apart). THE CARD IS WHAT COUNTS. Prove the row's statement (the work); the ties are given (YtfipdjlalfpbnaaGreatDoorTie.lean); close each card by the builder's one call (the guide's Derived/Test/ToyasCard.lean, 'card_holds'). Laid BY PROGRAM, IN A SANDBOX (cutbox-door.mjs). By AI agents, Wed Nov 11 2026. No macro, syntax, notation, axiom, sorry.
-/
import Derived.Test.YtfipdjlalfpbnaaGreatDoorRows
import GoSem.ClaimSeven
namespace Go.Proofs.YtfipdjlalfpbnaaGreatDoor
namespace Rows

/-- THE TIED CARD OF 'snicketlaw11.MacsSign'. -/
def macsSignCard : Claim7 := { stood := { row := macsSignRow, standIns := [], harness := (true, "3ae347edba17cf6fffe022d9cdf4218727a5983b7c17ebd1377913b6c48bee50"), looks := false }, kinds := [], alts := [], laidByText := true, laidKinds := [.data, .data, .data], laidTests := true, laidLooks := .later }
def MacsSignCardSaid : Prop := Claim7.holds Tryz.pinned (.plain (OpenSpec.ofChange macsSignSpec)) macsSignCard

/-- THE TIED CARD OF 'snicketlaw11.MacsRefuse'. -/
def macsRefuseCard : Claim7 := { stood := { row := macsRefuseRow, standIns := [], harness := (true, "3ae347edba17cf6fffe022d9cdf4218727a5983b7c17ebd1377913b6c48bee50"), looks := false }, kinds := [], alts := [], laidByText := true, laidKinds := [.data, .data, .data], laidTests := true, laidLooks := .later }
def MacsRefuseCardSaid : Prop := Claim7.holds Tryz.pinned (.plain (OpenSpec.ofChange macsRefuseSpec)) macsRefuseCard

/-- THE TIED CARD OF 'snicketlaw12.PairActs'. -/
def pairActsCard : Claim7 := { stood := { row := pairActsRow, standIns := [], harness := (true, "3ae347edba17cf6fffe022d9cdf4218727a5983b7c17ebd1377913b6c48bee50"), looks := false }, kinds := [], alts := [], laidByText := true, laidKinds := [.data, .data, .data], laidTests := true, laidLooks := .later }
def PairActsCardSaid : Prop := Claim7.holds Tryz.pinned (.plain (OpenSpec.ofChange pairActsSpec)) pairActsCard

/-- THE TIED CARD OF 'snicketlaw10.NoiseBegins'. -/
def noiseBeginsCard : Claim7 := { stood := { row := noiseBeginsRow, standIns := [], harness := (true, "3ae347edba17cf6fffe022d9cdf4218727a5983b7c17ebd1377913b6c48bee50"), looks := false }, kinds := [], alts := [], laidByText := true, laidKinds := [.data, .data, .data], laidTests := true, laidLooks := .later }
def NoiseBeginsCardSaid : Prop := Claim7.holds Tryz.pinned (.plain (OpenSpec.ofChange noiseBeginsSpec)) noiseBeginsCard

/-- THE TIED CARD OF 'snicketlaw10.NoiseHears'. -/
def noiseHearsCard : Claim7 := { stood := { row := noiseHearsRow, standIns := [], harness := (true, "3ae347edba17cf6fffe022d9cdf4218727a5983b7c17ebd1377913b6c48bee50"), looks := false }, kinds := [], alts := [], laidByText := true, laidKinds := [.data, .data, .data], laidTests := true, laidLooks := .later }
def NoiseHearsCardSaid : Prop := Claim7.holds Tryz.pinned (.plain (OpenSpec.ofChange noiseHearsSpec)) noiseHearsCard

/-- THE TIED CARD OF 'snicketlaw10.NoiseAgrees'. -/
def noiseAgreesCard : Claim7 := { stood := { row := noiseAgreesRow, standIns := [], harness := (true, "3ae347edba17cf6fffe022d9cdf4218727a5983b7c17ebd1377913b6c48bee50"), looks := false }, kinds := [], alts := [], laidByText := true, laidKinds := [.data, .data, .data], laidTests := true, laidLooks := .later }
def NoiseAgreesCardSaid : Prop := Claim7.holds Tryz.pinned (.plain (OpenSpec.ofChange noiseAgreesSpec)) noiseAgreesCard

/-- THE TIED CARD OF 'snicketlaw10.NoiseFinishes'. -/
def noiseFinishesCard : Claim7 := { stood := { row := noiseFinishesRow, standIns := [], harness := (true, "3ae347edba17cf6fffe022d9cdf4218727a5983b7c17ebd1377913b6c48bee50"), looks := false }, kinds := [], alts := [], laidByText := true, laidKinds := [.data, .data, .data], laidTests := true, laidLooks := .later }
def NoiseFinishesCardSaid : Prop := Claim7.holds Tryz.pinned (.plain (OpenSpec.ofChange noiseFinishesSpec)) noiseFinishesCard

/-- THE SECOND FORM's CARD OF 'snicketlaw11.MacsSign'. -/
def macsSignUptoCard : Claim7 := { stood := { row := macsSignUptoRow, standIns := [], harness := (true, "3ae347edba17cf6fffe022d9cdf4218727a5983b7c17ebd1377913b6c48bee50"), looks := false }, kinds := [], alts := [], laidByText := true, laidKinds := [.data, .data, .data], laidTests := true, laidLooks := .later }
def MacsSignUptoCardSaid : Prop := Claim7.holds Tryz.pinned (.plain (OpenSpec.upto macsSignSpec)) macsSignUptoCard

/-- THE SECOND FORM's CARD OF 'snicketlaw11.MacsRefuse'. -/
def macsRefuseUptoCard : Claim7 := { stood := { row := macsRefuseUptoRow, standIns := [], harness := (true, "3ae347edba17cf6fffe022d9cdf4218727a5983b7c17ebd1377913b6c48bee50"), looks := false }, kinds := [], alts := [], laidByText := true, laidKinds := [.data, .data, .data], laidTests := true, laidLooks := .later }
def MacsRefuseUptoCardSaid : Prop := Claim7.holds Tryz.pinned (.plain (OpenSpec.upto macsRefuseSpec)) macsRefuseUptoCard

/-- THE SECOND FORM's CARD OF 'snicketlaw12.PairActs'. -/
def pairActsUptoCard : Claim7 := { stood := { row := pairActsUptoRow, standIns := [], harness := (true, "3ae347edba17cf6fffe022d9cdf4218727a5983b7c17ebd1377913b6c48bee50"), looks := false }, kinds := [], alts := [], laidByText := true, laidKinds := [.data, .data, .data], laidTests := true, laidLooks := .later }
def PairActsUptoCardSaid : Prop := Claim7.holds Tryz.pinned (.plain (OpenSpec.upto pairActsSpec)) pairActsUptoCard

/-- THE SECOND FORM's CARD OF 'snicketlaw10.NoiseBegins'. -/
def noiseBeginsUptoCard : Claim7 := { stood := { row := noiseBeginsUptoRow, standIns := [], harness := (true, "3ae347edba17cf6fffe022d9cdf4218727a5983b7c17ebd1377913b6c48bee50"), looks := false }, kinds := [], alts := [], laidByText := true, laidKinds := [.data, .data, .data], laidTests := true, laidLooks := .later }
def NoiseBeginsUptoCardSaid : Prop := Claim7.holds Tryz.pinned (.plain (OpenSpec.upto noiseBeginsSpec)) noiseBeginsUptoCard

/-- THE SECOND FORM's CARD OF 'snicketlaw10.NoiseHears'. -/
def noiseHearsUptoCard : Claim7 := { stood := { row := noiseHearsUptoRow, standIns := [], harness := (true, "3ae347edba17cf6fffe022d9cdf4218727a5983b7c17ebd1377913b6c48bee50"), looks := false }, kinds := [], alts := [], laidByText := true, laidKinds := [.data, .data, .data], laidTests := true, laidLooks := .later }
def NoiseHearsUptoCardSaid : Prop := Claim7.holds Tryz.pinned (.plain (OpenSpec.upto noiseHearsSpec)) noiseHearsUptoCard

/-- THE SECOND FORM's CARD OF 'snicketlaw10.NoiseAgrees'. -/
def noiseAgreesUptoCard : Claim7 := { stood := { row := noiseAgreesUptoRow, standIns := [], harness := (true, "3ae347edba17cf6fffe022d9cdf4218727a5983b7c17ebd1377913b6c48bee50"), looks := false }, kinds := [], alts := [], laidByText := true, laidKinds := [.data, .data, .data], laidTests := true, laidLooks := .later }
def NoiseAgreesUptoCardSaid : Prop := Claim7.holds Tryz.pinned (.plain (OpenSpec.upto noiseAgreesSpec)) noiseAgreesUptoCard

/-- THE SECOND FORM's CARD OF 'snicketlaw10.NoiseFinishes'. -/
def noiseFinishesUptoCard : Claim7 := { stood := { row := noiseFinishesUptoRow, standIns := [], harness := (true, "3ae347edba17cf6fffe022d9cdf4218727a5983b7c17ebd1377913b6c48bee50"), looks := false }, kinds := [], alts := [], laidByText := true, laidKinds := [.data, .data, .data], laidTests := true, laidLooks := .later }
def NoiseFinishesUptoCardSaid : Prop := Claim7.holds Tryz.pinned (.plain (OpenSpec.upto noiseFinishesSpec)) noiseFinishesUptoCard
end Rows
end Go.Proofs.YtfipdjlalfpbnaaGreatDoor

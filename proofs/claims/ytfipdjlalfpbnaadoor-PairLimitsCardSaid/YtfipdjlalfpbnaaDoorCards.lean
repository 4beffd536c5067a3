/-
  DERIVED. GIVEN WITH THE SEED: THE CARDS: each row of YtfipdjlalfpbnaaDoorRows.lean that lists a variable, with what it lists TIED to the program's text (the seventh form; the later family's looks); each row that meets fmt, with fmt's text TOLD by the authors' own Lean function (tested against real Go, not proved from fmt's source: count such statements apart). THE CARD IS WHAT COUNTS. Prove the row's statement (the work); the ties are given (YtfipdjlalfpbnaaDoorTie.lean); close each card by the builder's one call (the guide's Derived/Test/ToyasCard.lean, 'card_holds'). Laid BY PROGRAM, IN A SANDBOX (cutbox-door.mjs). By AI agents, Wed Nov 11 2026. No macro, syntax, notation, axiom, sorry.
-/
import Derived.Test.YtfipdjlalfpbnaaDoorRows
import GoSem.ClaimSeven
namespace Go.Proofs.YtfipdjlalfpbnaaDoor
namespace Rows

/-- THE TIED CARD OF 'snicketlaw12.PairLimits'. -/
def pairLimitsCard : Claim7 := { stood := { row := pairLimitsRow, standIns := [], harness := (true, "daf041cae5037033f003ab3adfb053b2b915f44ae67d9152b139c7c98f104c08"), looks := false }, kinds := [], alts := [], laidByText := true, laidKinds := [.data, .data, .data], laidTests := true, laidLooks := .later }
def PairLimitsCardSaid : Prop := Claim7.holds Tryd.pinned (.plain (OpenSpec.ofChange pairLimitsSpec)) pairLimitsCard

/-- THE TIED CARD OF 'snicketlaw12.PairNil'. -/
def pairNilCard : Claim7 := { stood := { row := pairNilRow, standIns := [], harness := (true, "daf041cae5037033f003ab3adfb053b2b915f44ae67d9152b139c7c98f104c08"), looks := false }, kinds := [], alts := [], laidByText := true, laidKinds := [.data, .data, .data], laidTests := true, laidLooks := .later }
def PairNilCardSaid : Prop := Claim7.holds Tryd.pinned (.plain (OpenSpec.ofChange pairNilSpec)) pairNilCard

/-- THE TIED CARD OF 'snicketlaw10.NoiseSecret'. -/
def noiseSecretCard : Claim7 := { stood := { row := noiseSecretRow, standIns := [], harness := (true, "daf041cae5037033f003ab3adfb053b2b915f44ae67d9152b139c7c98f104c08"), looks := false }, kinds := [], alts := [], laidByText := true, laidKinds := [.data, .data, .data], laidTests := true, laidLooks := .later }
def NoiseSecretCardSaid : Prop := Claim7.holds Tryd.pinned (.plain (OpenSpec.ofChange noiseSecretSpec)) noiseSecretCard

/-- THE SECOND FORM's CARD OF 'snicketlaw12.PairLimits'. -/
def pairLimitsUptoCard : Claim7 := { stood := { row := pairLimitsUptoRow, standIns := [], harness := (true, "daf041cae5037033f003ab3adfb053b2b915f44ae67d9152b139c7c98f104c08"), looks := false }, kinds := [], alts := [], laidByText := true, laidKinds := [.data, .data, .data], laidTests := true, laidLooks := .later }
def PairLimitsUptoCardSaid : Prop := Claim7.holds Tryd.pinned (.plain (OpenSpec.upto pairLimitsSpec)) pairLimitsUptoCard

/-- THE SECOND FORM's CARD OF 'snicketlaw12.PairNil'. -/
def pairNilUptoCard : Claim7 := { stood := { row := pairNilUptoRow, standIns := [], harness := (true, "daf041cae5037033f003ab3adfb053b2b915f44ae67d9152b139c7c98f104c08"), looks := false }, kinds := [], alts := [], laidByText := true, laidKinds := [.data, .data, .data], laidTests := true, laidLooks := .later }
def PairNilUptoCardSaid : Prop := Claim7.holds Tryd.pinned (.plain (OpenSpec.upto pairNilSpec)) pairNilUptoCard

/-- THE SECOND FORM's CARD OF 'snicketlaw10.NoiseSecret'. -/
def noiseSecretUptoCard : Claim7 := { stood := { row := noiseSecretUptoRow, standIns := [], harness := (true, "daf041cae5037033f003ab3adfb053b2b915f44ae67d9152b139c7c98f104c08"), looks := false }, kinds := [], alts := [], laidByText := true, laidKinds := [.data, .data, .data], laidTests := true, laidLooks := .later }
def NoiseSecretUptoCardSaid : Prop := Claim7.holds Tryd.pinned (.plain (OpenSpec.upto noiseSecretSpec)) noiseSecretUptoCard
end Rows
end Go.Proofs.YtfipdjlalfpbnaaDoor

/-
  DERIVED. GIVEN WITH THE SEED: THE CARDS: each row of YtjoghbpekpgkpaaDoorRows.lean that lists a variable, with what it lists TIED to the program's text (the seventh form; the later family's looks); each row that meets fmt, with fmt's text TOLD by the authors' own Lean function (tested against real Go, not proved from fmt's source: count such statements apart). THE CARD IS WHAT COUNTS. Prove the row's statement (the work); the ties are given (YtjoghbpekpgkpaaDoorTie.lean); close each card by the builder's one call (the guide's Derived/Test/ToyasCard.lean, 'card_holds'). Laid BY PROGRAM, IN A SANDBOX (cutbox-door.mjs). By AI agents, Wed Nov 11 2026. No macro, syntax, notation, axiom, sorry.
-/
import Derived.Test.YtjoghbpekpgkpaaDoorRows
import GoSem.ClaimSeven
namespace Go.Proofs.YtjoghbpekpgkpaaDoor
namespace Rows

/-- THE TIED CARD OF 'selionlaw03.ArenaNew'. -/
def arenaNewCard : Claim7 := { stood := { row := arenaNewRow, standIns := [], harness := (true, "cfec22cff217ce28f1b986a12f1545e90d4e1fe3d8ed39e28f1b4798b88c122f"), looks := true }, kinds := [], alts := [], laidByText := true, laidKinds := [.sentinel, .sentinel, .sentinel, .sentinel, .sentinel, .sentinel], laidTests := true, laidLooks := .later }
def ArenaNewCardSaid : Prop := Claim7.holds Tryd.pinned (.plain (OpenSpec.ofChange arenaNewSpec)) arenaNewCard

/-- THE TIED CARD OF 'selionlaw03.ArenaPlays'. -/
def arenaPlaysCard : Claim7 := { stood := { row := arenaPlaysRow, standIns := [], harness := (true, "cfec22cff217ce28f1b986a12f1545e90d4e1fe3d8ed39e28f1b4798b88c122f"), looks := true }, kinds := [], alts := [], laidByText := true, laidKinds := [.sentinel, .sentinel, .sentinel, .sentinel, .sentinel, .sentinel], laidTests := true, laidLooks := .later }
def ArenaPlaysCardSaid : Prop := Claim7.holds Tryd.pinned (.plain (OpenSpec.ofChange arenaPlaysSpec)) arenaPlaysCard

/-- THE TIED CARD OF 'selionlaw03.ArenaBack'. -/
def arenaBackCard : Claim7 := { stood := { row := arenaBackRow, standIns := [], harness := (true, "cfec22cff217ce28f1b986a12f1545e90d4e1fe3d8ed39e28f1b4798b88c122f"), looks := true }, kinds := [], alts := [], laidByText := true, laidKinds := [.sentinel, .sentinel, .sentinel, .sentinel, .sentinel, .sentinel], laidTests := true, laidLooks := .later }
def ArenaBackCardSaid : Prop := Claim7.holds Tryd.pinned (.plain (OpenSpec.ofChange arenaBackSpec)) arenaBackCard

/-- THE TIED CARD OF 'selionlaw03.ArenaWords'. -/
def arenaWordsCard : Claim7 := { stood := { row := arenaWordsRow, standIns := [], harness := (true, "cfec22cff217ce28f1b986a12f1545e90d4e1fe3d8ed39e28f1b4798b88c122f"), looks := true }, kinds := [], alts := [], laidByText := true, laidKinds := [.sentinel, .sentinel, .sentinel, .sentinel, .sentinel, .sentinel], laidTests := true, laidLooks := .later }
def ArenaWordsCardSaid : Prop := Claim7.holds Tryd.pinned (.plain (OpenSpec.ofChange arenaWordsSpec)) arenaWordsCard

/-- THE TIED CARD OF 'selionlaw03.ArenaZeroes'. -/
def arenaZeroesCard : Claim7 := { stood := { row := arenaZeroesRow, standIns := [], harness := (true, "cfec22cff217ce28f1b986a12f1545e90d4e1fe3d8ed39e28f1b4798b88c122f"), looks := true }, kinds := [], alts := [], laidByText := true, laidKinds := [.sentinel, .sentinel, .sentinel, .sentinel, .sentinel, .sentinel], laidTests := true, laidLooks := .later }
def ArenaZeroesCardSaid : Prop := Claim7.holds Tryd.pinned (.plain (OpenSpec.ofChange arenaZeroesSpec)) arenaZeroesCard

/-- THE TIED CARD OF 'selionlaw03.ArenaApart'. -/
def arenaApartCard : Claim7 := { stood := { row := arenaApartRow, standIns := [], harness := (true, "cfec22cff217ce28f1b986a12f1545e90d4e1fe3d8ed39e28f1b4798b88c122f"), looks := true }, kinds := [], alts := [], laidByText := true, laidKinds := [.sentinel, .sentinel, .sentinel, .sentinel, .sentinel, .sentinel], laidTests := true, laidLooks := .later }
def ArenaApartCardSaid : Prop := Claim7.holds Tryd.pinned (.plain (OpenSpec.ofChange arenaApartSpec)) arenaApartCard

/-- THE TIED CARD OF 'selionlaw03.ArenaParts'. -/
def arenaPartsCard : Claim7 := { stood := { row := arenaPartsRow, standIns := [], harness := (true, "cfec22cff217ce28f1b986a12f1545e90d4e1fe3d8ed39e28f1b4798b88c122f"), looks := true }, kinds := [], alts := [], laidByText := true, laidKinds := [.sentinel, .sentinel, .sentinel, .sentinel, .sentinel, .sentinel], laidTests := true, laidLooks := .later }
def ArenaPartsCardSaid : Prop := Claim7.holds Tryd.pinned (.plain (OpenSpec.ofChange arenaPartsSpec)) arenaPartsCard

/-- THE SECOND FORM's CARD OF 'selionlaw03.ArenaNew'. -/
def arenaNewUptoCard : Claim7 := { stood := { row := arenaNewUptoRow, standIns := [], harness := (true, "cfec22cff217ce28f1b986a12f1545e90d4e1fe3d8ed39e28f1b4798b88c122f"), looks := true }, kinds := [], alts := [], laidByText := true, laidKinds := [.sentinel, .sentinel, .sentinel, .sentinel, .sentinel, .sentinel], laidTests := true, laidLooks := .later }
def ArenaNewUptoCardSaid : Prop := Claim7.holds Tryd.pinned (.plain (OpenSpec.upto arenaNewSpec)) arenaNewUptoCard

/-- THE SECOND FORM's CARD OF 'selionlaw03.ArenaPlays'. -/
def arenaPlaysUptoCard : Claim7 := { stood := { row := arenaPlaysUptoRow, standIns := [], harness := (true, "cfec22cff217ce28f1b986a12f1545e90d4e1fe3d8ed39e28f1b4798b88c122f"), looks := true }, kinds := [], alts := [], laidByText := true, laidKinds := [.sentinel, .sentinel, .sentinel, .sentinel, .sentinel, .sentinel], laidTests := true, laidLooks := .later }
def ArenaPlaysUptoCardSaid : Prop := Claim7.holds Tryd.pinned (.plain (OpenSpec.upto arenaPlaysSpec)) arenaPlaysUptoCard

/-- THE SECOND FORM's CARD OF 'selionlaw03.ArenaBack'. -/
def arenaBackUptoCard : Claim7 := { stood := { row := arenaBackUptoRow, standIns := [], harness := (true, "cfec22cff217ce28f1b986a12f1545e90d4e1fe3d8ed39e28f1b4798b88c122f"), looks := true }, kinds := [], alts := [], laidByText := true, laidKinds := [.sentinel, .sentinel, .sentinel, .sentinel, .sentinel, .sentinel], laidTests := true, laidLooks := .later }
def ArenaBackUptoCardSaid : Prop := Claim7.holds Tryd.pinned (.plain (OpenSpec.upto arenaBackSpec)) arenaBackUptoCard

/-- THE SECOND FORM's CARD OF 'selionlaw03.ArenaWords'. -/
def arenaWordsUptoCard : Claim7 := { stood := { row := arenaWordsUptoRow, standIns := [], harness := (true, "cfec22cff217ce28f1b986a12f1545e90d4e1fe3d8ed39e28f1b4798b88c122f"), looks := true }, kinds := [], alts := [], laidByText := true, laidKinds := [.sentinel, .sentinel, .sentinel, .sentinel, .sentinel, .sentinel], laidTests := true, laidLooks := .later }
def ArenaWordsUptoCardSaid : Prop := Claim7.holds Tryd.pinned (.plain (OpenSpec.upto arenaWordsSpec)) arenaWordsUptoCard

/-- THE SECOND FORM's CARD OF 'selionlaw03.ArenaZeroes'. -/
def arenaZeroesUptoCard : Claim7 := { stood := { row := arenaZeroesUptoRow, standIns := [], harness := (true, "cfec22cff217ce28f1b986a12f1545e90d4e1fe3d8ed39e28f1b4798b88c122f"), looks := true }, kinds := [], alts := [], laidByText := true, laidKinds := [.sentinel, .sentinel, .sentinel, .sentinel, .sentinel, .sentinel], laidTests := true, laidLooks := .later }
def ArenaZeroesUptoCardSaid : Prop := Claim7.holds Tryd.pinned (.plain (OpenSpec.upto arenaZeroesSpec)) arenaZeroesUptoCard

/-- THE SECOND FORM's CARD OF 'selionlaw03.ArenaApart'. -/
def arenaApartUptoCard : Claim7 := { stood := { row := arenaApartUptoRow, standIns := [], harness := (true, "cfec22cff217ce28f1b986a12f1545e90d4e1fe3d8ed39e28f1b4798b88c122f"), looks := true }, kinds := [], alts := [], laidByText := true, laidKinds := [.sentinel, .sentinel, .sentinel, .sentinel, .sentinel, .sentinel], laidTests := true, laidLooks := .later }
def ArenaApartUptoCardSaid : Prop := Claim7.holds Tryd.pinned (.plain (OpenSpec.upto arenaApartSpec)) arenaApartUptoCard

/-- THE SECOND FORM's CARD OF 'selionlaw03.ArenaParts'. -/
def arenaPartsUptoCard : Claim7 := { stood := { row := arenaPartsUptoRow, standIns := [], harness := (true, "cfec22cff217ce28f1b986a12f1545e90d4e1fe3d8ed39e28f1b4798b88c122f"), looks := true }, kinds := [], alts := [], laidByText := true, laidKinds := [.sentinel, .sentinel, .sentinel, .sentinel, .sentinel, .sentinel], laidTests := true, laidLooks := .later }
def ArenaPartsUptoCardSaid : Prop := Claim7.holds Tryd.pinned (.plain (OpenSpec.upto arenaPartsSpec)) arenaPartsUptoCard
end Rows
end Go.Proofs.YtjoghbpekpgkpaaDoor

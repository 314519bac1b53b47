/-
  DERIVED. GIVEN WITH THE SEED: THE CARDS: each row of YtdhligapadblgaaDoorRows.lean that lists a variable, with what it lists TIED to the program's text (the seventh form; the later family's looks); each row that meets fmt, with fmt's text TOLD by the authors' own Lean function (tested against real Go, not proved from fmt's source: count such statements apart). THE CARD IS WHAT COUNTS. Prove the row's statement (the work); the ties are given (YtdhligapadblgaaDoorTie.lean); close each card by the builder's one call (the guide's Derived/Test/ToyasCard.lean, 'card_holds'). Laid BY PROGRAM, IN A SANDBOX (cutbox-door.mjs). By AI agents, Wed Nov 11 2026. No macro, syntax, notation, axiom, sorry.
-/
import Derived.Test.YtdhligapadblgaaDoorRows
import GoSem.ClaimSeven
namespace Go.Proofs.YtdhligapadblgaaDoor
namespace Rows

/-- THE TIED CARD OF 'selionlaw06.HeadCodes'. -/
def headCodesCard : Claim7 := { stood := { row := headCodesRow, standIns := [], harness := (true, "fe0f4324bb0b2fa41d560ec09b2c5d67dcbad60f4ba8788553bcdb22fd5edafe"), looks := true }, kinds := [], alts := [], laidByText := true, laidKinds := [.sentinel, .sentinel, .sentinel, .sentinel, .sentinel, .sentinel, .wider], laidTests := true, laidLooks := .later }
def HeadCodesCardSaid : Prop := Claim7.holds Tryd.pinned (.plain (OpenSpec.ofChange headCodesSpec)) headCodesCard

/-- THE TIED CARD OF 'selionlaw06.HeadByte'. -/
def headByteCard : Claim7 := { stood := { row := headByteRow, standIns := [], harness := (true, "fe0f4324bb0b2fa41d560ec09b2c5d67dcbad60f4ba8788553bcdb22fd5edafe"), looks := true }, kinds := [], alts := [], laidByText := true, laidKinds := [.sentinel, .sentinel, .sentinel, .sentinel, .sentinel, .sentinel, .wider], laidTests := true, laidLooks := .later }
def HeadByteCardSaid : Prop := Claim7.holds Tryd.pinned (.plain (OpenSpec.ofChange headByteSpec)) headByteCard

/-- THE TIED CARD OF 'selionlaw06.HeadTurns'. -/
def headTurnsCard : Claim7 := { stood := { row := headTurnsRow, standIns := [], harness := (true, "fe0f4324bb0b2fa41d560ec09b2c5d67dcbad60f4ba8788553bcdb22fd5edafe"), looks := true }, kinds := [], alts := [], laidByText := true, laidKinds := [.sentinel, .sentinel, .sentinel, .sentinel, .sentinel, .sentinel, .wider], laidTests := true, laidLooks := .later }
def HeadTurnsCardSaid : Prop := Claim7.holds Tryd.pinned (.plain (OpenSpec.ofChange headTurnsSpec)) headTurnsCard

/-- THE TIED CARD OF 'selionlaw06.HeadApart'. -/
def headApartCard : Claim7 := { stood := { row := headApartRow, standIns := [], harness := (true, "fe0f4324bb0b2fa41d560ec09b2c5d67dcbad60f4ba8788553bcdb22fd5edafe"), looks := true }, kinds := [], alts := [], laidByText := true, laidKinds := [.sentinel, .sentinel, .sentinel, .sentinel, .sentinel, .sentinel, .wider], laidTests := true, laidLooks := .later }
def HeadApartCardSaid : Prop := Claim7.holds Tryd.pinned (.plain (OpenSpec.ofChange headApartSpec)) headApartCard

/-- THE TIED CARD OF 'selionlaw06.HeadPuts'. -/
def headPutsCard : Claim7 := { stood := { row := headPutsRow, standIns := [], harness := (true, "fe0f4324bb0b2fa41d560ec09b2c5d67dcbad60f4ba8788553bcdb22fd5edafe"), looks := true }, kinds := [], alts := [], laidByText := true, laidKinds := [.sentinel, .sentinel, .sentinel, .sentinel, .sentinel, .sentinel, .sentinel, .sentinel, .sentinel, .wider], laidTests := true, laidLooks := .later }
def HeadPutsCardSaid : Prop := Claim7.holds Tryd.pinned (.plain (OpenSpec.ofChange headPutsSpec)) headPutsCard

/-- THE TIED CARD OF 'selionlaw06.HeadBack'. -/
def headBackCard : Claim7 := { stood := { row := headBackRow, standIns := [], harness := (true, "fe0f4324bb0b2fa41d560ec09b2c5d67dcbad60f4ba8788553bcdb22fd5edafe"), looks := true }, kinds := [], alts := [], laidByText := true, laidKinds := [.sentinel, .sentinel, .sentinel, .sentinel, .sentinel, .sentinel, .sentinel, .sentinel, .sentinel, .wider], laidTests := true, laidLooks := .later }
def HeadBackCardSaid : Prop := Claim7.holds Tryd.pinned (.plain (OpenSpec.ofChange headBackSpec)) headBackCard

/-- THE SECOND FORM's CARD OF 'selionlaw06.HeadCodes'. -/
def headCodesUptoCard : Claim7 := { stood := { row := headCodesUptoRow, standIns := [], harness := (true, "fe0f4324bb0b2fa41d560ec09b2c5d67dcbad60f4ba8788553bcdb22fd5edafe"), looks := true }, kinds := [], alts := [], laidByText := true, laidKinds := [.sentinel, .sentinel, .sentinel, .sentinel, .sentinel, .sentinel, .wider], laidTests := true, laidLooks := .later }
def HeadCodesUptoCardSaid : Prop := Claim7.holds Tryd.pinned (.plain (OpenSpec.upto headCodesSpec)) headCodesUptoCard

/-- THE SECOND FORM's CARD OF 'selionlaw06.HeadByte'. -/
def headByteUptoCard : Claim7 := { stood := { row := headByteUptoRow, standIns := [], harness := (true, "fe0f4324bb0b2fa41d560ec09b2c5d67dcbad60f4ba8788553bcdb22fd5edafe"), looks := true }, kinds := [], alts := [], laidByText := true, laidKinds := [.sentinel, .sentinel, .sentinel, .sentinel, .sentinel, .sentinel, .wider], laidTests := true, laidLooks := .later }
def HeadByteUptoCardSaid : Prop := Claim7.holds Tryd.pinned (.plain (OpenSpec.upto headByteSpec)) headByteUptoCard

/-- THE SECOND FORM's CARD OF 'selionlaw06.HeadTurns'. -/
def headTurnsUptoCard : Claim7 := { stood := { row := headTurnsUptoRow, standIns := [], harness := (true, "fe0f4324bb0b2fa41d560ec09b2c5d67dcbad60f4ba8788553bcdb22fd5edafe"), looks := true }, kinds := [], alts := [], laidByText := true, laidKinds := [.sentinel, .sentinel, .sentinel, .sentinel, .sentinel, .sentinel, .wider], laidTests := true, laidLooks := .later }
def HeadTurnsUptoCardSaid : Prop := Claim7.holds Tryd.pinned (.plain (OpenSpec.upto headTurnsSpec)) headTurnsUptoCard

/-- THE SECOND FORM's CARD OF 'selionlaw06.HeadApart'. -/
def headApartUptoCard : Claim7 := { stood := { row := headApartUptoRow, standIns := [], harness := (true, "fe0f4324bb0b2fa41d560ec09b2c5d67dcbad60f4ba8788553bcdb22fd5edafe"), looks := true }, kinds := [], alts := [], laidByText := true, laidKinds := [.sentinel, .sentinel, .sentinel, .sentinel, .sentinel, .sentinel, .wider], laidTests := true, laidLooks := .later }
def HeadApartUptoCardSaid : Prop := Claim7.holds Tryd.pinned (.plain (OpenSpec.upto headApartSpec)) headApartUptoCard

/-- THE SECOND FORM's CARD OF 'selionlaw06.HeadPuts'. -/
def headPutsUptoCard : Claim7 := { stood := { row := headPutsUptoRow, standIns := [], harness := (true, "fe0f4324bb0b2fa41d560ec09b2c5d67dcbad60f4ba8788553bcdb22fd5edafe"), looks := true }, kinds := [], alts := [], laidByText := true, laidKinds := [.sentinel, .sentinel, .sentinel, .sentinel, .sentinel, .sentinel, .sentinel, .sentinel, .sentinel, .wider], laidTests := true, laidLooks := .later }
def HeadPutsUptoCardSaid : Prop := Claim7.holds Tryd.pinned (.plain (OpenSpec.upto headPutsSpec)) headPutsUptoCard

/-- THE SECOND FORM's CARD OF 'selionlaw06.HeadBack'. -/
def headBackUptoCard : Claim7 := { stood := { row := headBackUptoRow, standIns := [], harness := (true, "fe0f4324bb0b2fa41d560ec09b2c5d67dcbad60f4ba8788553bcdb22fd5edafe"), looks := true }, kinds := [], alts := [], laidByText := true, laidKinds := [.sentinel, .sentinel, .sentinel, .sentinel, .sentinel, .sentinel, .sentinel, .sentinel, .sentinel, .wider], laidTests := true, laidLooks := .later }
def HeadBackUptoCardSaid : Prop := Claim7.holds Tryd.pinned (.plain (OpenSpec.upto headBackSpec)) headBackUptoCard
end Rows
end Go.Proofs.YtdhligapadblgaaDoor

/-
  DERIVED. GIVEN WITH THE SEED: THE CARDS: each row of YteilnojniilmaaaDoorRows.lean that lists a variable, with what it lists TIED to the program's text (the seventh form; the later family's looks); each row that meets fmt, with fmt's text TOLD by the authors' own Lean function (tested against real Go, not proved from fmt's source: count such statements apart). THE CARD IS WHAT COUNTS. Prove the row's statement (the work); the ties are given (YteilnojniilmaaaDoorTie.lean); close each card by the builder's one call (the guide's Derived/Test/ToyasCard.lean, 'card_holds'). Laid BY PROGRAM, IN A SANDBOX (cutbox-door.mjs). By AI agents, Wed Nov 11 2026. No macro, syntax, notation, axiom, sorry.
-/
import Derived.Test.YteilnojniilmaaaDoorRows
import GoSem.ClaimSeven
namespace Go.Proofs.YteilnojniilmaaaDoor
namespace Rows

/-- THE TIED CARD OF 'selionlaw07.MarksTurns'. -/
def marksTurnsCard : Claim7 := { stood := { row := marksTurnsRow, standIns := [], harness := (true, "1f611e43577b3a61c38928270ba1c3a0c9c6ffc73ac9326e7893fab49adac7f6"), looks := true }, kinds := [], alts := [], laidByText := true, laidKinds := [.sentinel, .sentinel, .sentinel, .data, .sentinel, .sentinel], laidTests := true, laidLooks := .later }
def MarksTurnsCardSaid : Prop := Claim7.holds Tryd.pinned (.plain (OpenSpec.ofChange marksTurnsSpec)) marksTurnsCard

/-- THE TIED CARD OF 'selionlaw07.MarksLines'. -/
def marksLinesCard : Claim7 := { stood := { row := marksLinesRow, standIns := [], harness := (true, "1f611e43577b3a61c38928270ba1c3a0c9c6ffc73ac9326e7893fab49adac7f6"), looks := true }, kinds := [], alts := [], laidByText := true, laidKinds := [.sentinel, .sentinel, .sentinel, .data, .sentinel, .sentinel], laidTests := true, laidLooks := .later }
def MarksLinesCardSaid : Prop := Claim7.holds Tryd.pinned (.plain (OpenSpec.ofChange marksLinesSpec)) marksLinesCard

/-- THE TIED CARD OF 'selionlaw07.MarksKeeps'. -/
def marksKeepsCard : Claim7 := { stood := { row := marksKeepsRow, standIns := [], harness := (true, "1f611e43577b3a61c38928270ba1c3a0c9c6ffc73ac9326e7893fab49adac7f6"), looks := true }, kinds := [], alts := [], laidByText := true, laidKinds := [.sentinel, .sentinel, .sentinel, .data, .sentinel, .sentinel], laidTests := true, laidLooks := .later }
def MarksKeepsCardSaid : Prop := Claim7.holds Tryd.pinned (.plain (OpenSpec.ofChange marksKeepsSpec)) marksKeepsCard

/-- THE TIED CARD OF 'selionlaw07.MarksSmall'. -/
def marksSmallCard : Claim7 := { stood := { row := marksSmallRow, standIns := [], harness := (true, "1f611e43577b3a61c38928270ba1c3a0c9c6ffc73ac9326e7893fab49adac7f6"), looks := true }, kinds := [], alts := [], laidByText := true, laidKinds := [.sentinel, .sentinel, .sentinel, .data, .sentinel, .sentinel], laidTests := true, laidLooks := .later }
def MarksSmallCardSaid : Prop := Claim7.holds Tryd.pinned (.plain (OpenSpec.ofChange marksSmallSpec)) marksSmallCard

/-- THE TIED CARD OF 'selionlaw07.MarksTells'. -/
def marksTellsCard : Claim7 := { stood := { row := marksTellsRow, standIns := [], harness := (true, "1f611e43577b3a61c38928270ba1c3a0c9c6ffc73ac9326e7893fab49adac7f6"), looks := true }, kinds := [], alts := [], laidByText := true, laidKinds := [.sentinel, .sentinel, .sentinel, .data, .sentinel, .sentinel], laidTests := true, laidLooks := .later }
def MarksTellsCardSaid : Prop := Claim7.holds Tryd.pinned (.plain (OpenSpec.ofChange marksTellsSpec)) marksTellsCard

/-- THE TIED CARD OF 'selionlaw07.MarksMerges'. -/
def marksMergesCard : Claim7 := { stood := { row := marksMergesRow, standIns := [], harness := (true, "1f611e43577b3a61c38928270ba1c3a0c9c6ffc73ac9326e7893fab49adac7f6"), looks := true }, kinds := [], alts := [], laidByText := true, laidKinds := [.sentinel, .sentinel, .sentinel, .data, .sentinel, .sentinel], laidTests := true, laidLooks := .later }
def MarksMergesCardSaid : Prop := Claim7.holds Tryd.pinned (.plain (OpenSpec.ofChange marksMergesSpec)) marksMergesCard

/-- THE SECOND FORM's CARD OF 'selionlaw07.MarksTurns'. -/
def marksTurnsUptoCard : Claim7 := { stood := { row := marksTurnsUptoRow, standIns := [], harness := (true, "1f611e43577b3a61c38928270ba1c3a0c9c6ffc73ac9326e7893fab49adac7f6"), looks := true }, kinds := [], alts := [], laidByText := true, laidKinds := [.sentinel, .sentinel, .sentinel, .data, .sentinel, .sentinel], laidTests := true, laidLooks := .later }
def MarksTurnsUptoCardSaid : Prop := Claim7.holds Tryd.pinned (.plain (OpenSpec.upto marksTurnsSpec)) marksTurnsUptoCard

/-- THE SECOND FORM's CARD OF 'selionlaw07.MarksLines'. -/
def marksLinesUptoCard : Claim7 := { stood := { row := marksLinesUptoRow, standIns := [], harness := (true, "1f611e43577b3a61c38928270ba1c3a0c9c6ffc73ac9326e7893fab49adac7f6"), looks := true }, kinds := [], alts := [], laidByText := true, laidKinds := [.sentinel, .sentinel, .sentinel, .data, .sentinel, .sentinel], laidTests := true, laidLooks := .later }
def MarksLinesUptoCardSaid : Prop := Claim7.holds Tryd.pinned (.plain (OpenSpec.upto marksLinesSpec)) marksLinesUptoCard

/-- THE SECOND FORM's CARD OF 'selionlaw07.MarksKeeps'. -/
def marksKeepsUptoCard : Claim7 := { stood := { row := marksKeepsUptoRow, standIns := [], harness := (true, "1f611e43577b3a61c38928270ba1c3a0c9c6ffc73ac9326e7893fab49adac7f6"), looks := true }, kinds := [], alts := [], laidByText := true, laidKinds := [.sentinel, .sentinel, .sentinel, .data, .sentinel, .sentinel], laidTests := true, laidLooks := .later }
def MarksKeepsUptoCardSaid : Prop := Claim7.holds Tryd.pinned (.plain (OpenSpec.upto marksKeepsSpec)) marksKeepsUptoCard

/-- THE SECOND FORM's CARD OF 'selionlaw07.MarksSmall'. -/
def marksSmallUptoCard : Claim7 := { stood := { row := marksSmallUptoRow, standIns := [], harness := (true, "1f611e43577b3a61c38928270ba1c3a0c9c6ffc73ac9326e7893fab49adac7f6"), looks := true }, kinds := [], alts := [], laidByText := true, laidKinds := [.sentinel, .sentinel, .sentinel, .data, .sentinel, .sentinel], laidTests := true, laidLooks := .later }
def MarksSmallUptoCardSaid : Prop := Claim7.holds Tryd.pinned (.plain (OpenSpec.upto marksSmallSpec)) marksSmallUptoCard

/-- THE SECOND FORM's CARD OF 'selionlaw07.MarksTells'. -/
def marksTellsUptoCard : Claim7 := { stood := { row := marksTellsUptoRow, standIns := [], harness := (true, "1f611e43577b3a61c38928270ba1c3a0c9c6ffc73ac9326e7893fab49adac7f6"), looks := true }, kinds := [], alts := [], laidByText := true, laidKinds := [.sentinel, .sentinel, .sentinel, .data, .sentinel, .sentinel], laidTests := true, laidLooks := .later }
def MarksTellsUptoCardSaid : Prop := Claim7.holds Tryd.pinned (.plain (OpenSpec.upto marksTellsSpec)) marksTellsUptoCard

/-- THE SECOND FORM's CARD OF 'selionlaw07.MarksMerges'. -/
def marksMergesUptoCard : Claim7 := { stood := { row := marksMergesUptoRow, standIns := [], harness := (true, "1f611e43577b3a61c38928270ba1c3a0c9c6ffc73ac9326e7893fab49adac7f6"), looks := true }, kinds := [], alts := [], laidByText := true, laidKinds := [.sentinel, .sentinel, .sentinel, .data, .sentinel, .sentinel], laidTests := true, laidLooks := .later }
def MarksMergesUptoCardSaid : Prop := Claim7.holds Tryd.pinned (.plain (OpenSpec.upto marksMergesSpec)) marksMergesUptoCard
end Rows
end Go.Proofs.YteilnojniilmaaaDoor

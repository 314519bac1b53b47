/-
  DERIVED. GIVEN WITH THE SEED: THE CARDS: each row of YtmgllljilnkkcaaDoorRows.lean that lists a variable, with what it lists TIED to the program's text (the seventh form; the later family's looks); each row that meets fmt, with fmt's text TOLD by the authors' own Lean function (tested against real Go, not proved from fmt's source: count such statements apart). THE CARD IS WHAT COUNTS. Prove the row's statement (the work); the ties are given (YtmgllljilnkkcaaDoorTie.lean); close each card by the builder's one call (the guide's Derived/Test/ToyasCard.lean, 'card_holds'). Laid BY PROGRAM, IN A SANDBOX (cutbox-door.mjs). By AI agents, Wed Nov 11 2026. No macro, syntax, notation, axiom, sorry.
-/
import Derived.Test.YtmgllljilnkkcaaDoorRows
import GoSem.ClaimSeven
namespace Go.Proofs.YtmgllljilnkkcaaDoor
namespace Rows

/-- THE TIED CARD OF 'selionlaw08.HoleMarks'. -/
def holeMarksCard : Claim7 := { stood := { row := holeMarksRow, standIns := [], harness := (true, "0a5b5e1ce0cc35e8fadd97c200731141d62a421bb910f78000ba5004e4be2fe6"), looks := true }, kinds := [], alts := [], laidByText := true, laidKinds := [.sentinel, .sentinel, .sentinel, .data, .sentinel, .sentinel], laidTests := true, laidLooks := .later }
def HoleMarksCardSaid : Prop := Claim7.holds Tryd.pinned (.plain (OpenSpec.ofChange holeMarksSpec)) holeMarksCard

/-- THE SECOND FORM's CARD OF 'selionlaw08.HoleMarks'. -/
def holeMarksUptoCard : Claim7 := { stood := { row := holeMarksUptoRow, standIns := [], harness := (true, "0a5b5e1ce0cc35e8fadd97c200731141d62a421bb910f78000ba5004e4be2fe6"), looks := true }, kinds := [], alts := [], laidByText := true, laidKinds := [.sentinel, .sentinel, .sentinel, .data, .sentinel, .sentinel], laidTests := true, laidLooks := .later }
def HoleMarksUptoCardSaid : Prop := Claim7.holds Tryd.pinned (.plain (OpenSpec.upto holeMarksSpec)) holeMarksUptoCard
end Rows
end Go.Proofs.YtmgllljilnkkcaaDoor

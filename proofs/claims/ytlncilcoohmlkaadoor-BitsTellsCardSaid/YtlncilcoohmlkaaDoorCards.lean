/-
  DERIVED. GIVEN WITH THE SEED: THE CARDS: each row of YtlncilcoohmlkaaDoorRows.lean that lists a variable, with what it lists TIED to the program's text (the seventh form; the later family's looks); each row that meets fmt, with fmt's text TOLD by the authors' own Lean function (tested against real Go, not proved from fmt's source: count such statements apart). THE CARD IS WHAT COUNTS. Prove the row's statement (the work); the ties are given (YtlncilcoohmlkaaDoorTie.lean); close each card by the builder's one call (the guide's Derived/Test/ToyasCard.lean, 'card_holds'). Laid BY PROGRAM, IN A SANDBOX (cutbox-door.mjs). By AI agents, Wed Nov 11 2026. No macro, syntax, notation, axiom, sorry.
-/
import Derived.Test.YtlncilcoohmlkaaDoorRows
import GoSem.ClaimSeven
namespace Go.Proofs.YtlncilcoohmlkaaDoor
namespace Rows

/-- THE TIED CARD OF 'selionlaw02.BitsSets'. -/
def bitsSetsCard : Claim7 := { stood := { row := bitsSetsRow, standIns := [], harness := (true, "79f6b41cd62a6c028e9011d4d4078bb4a8194d1d847610fd63cc70b37916cfc0"), looks := true }, kinds := [], alts := [], laidByText := true, laidKinds := [.sentinel, .sentinel, .sentinel], laidTests := true, laidLooks := .later }
def BitsSetsCardSaid : Prop := Claim7.holds Tryd.pinned (.plain (OpenSpec.ofChange bitsSetsSpec)) bitsSetsCard

/-- THE TIED CARD OF 'selionlaw02.BitsWalks'. -/
def bitsWalksCard : Claim7 := { stood := { row := bitsWalksRow, standIns := [], harness := (true, "79f6b41cd62a6c028e9011d4d4078bb4a8194d1d847610fd63cc70b37916cfc0"), looks := true }, kinds := [], alts := [], laidByText := true, laidKinds := [.sentinel, .sentinel, .sentinel], laidTests := true, laidLooks := .later }
def BitsWalksCardSaid : Prop := Claim7.holds Tryd.pinned (.plain (OpenSpec.ofChange bitsWalksSpec)) bitsWalksCard

/-- THE TIED CARD OF 'selionlaw02.BitsTurns'. -/
def bitsTurnsCard : Claim7 := { stood := { row := bitsTurnsRow, standIns := [], harness := (true, "79f6b41cd62a6c028e9011d4d4078bb4a8194d1d847610fd63cc70b37916cfc0"), looks := true }, kinds := [], alts := [], laidByText := true, laidKinds := [.sentinel, .sentinel, .sentinel], laidTests := true, laidLooks := .later }
def BitsTurnsCardSaid : Prop := Claim7.holds Tryd.pinned (.plain (OpenSpec.ofChange bitsTurnsSpec)) bitsTurnsCard

/-- THE TIED CARD OF 'selionlaw02.BitsSums'. -/
def bitsSumsCard : Claim7 := { stood := { row := bitsSumsRow, standIns := [], harness := (true, "79f6b41cd62a6c028e9011d4d4078bb4a8194d1d847610fd63cc70b37916cfc0"), looks := true }, kinds := [], alts := [], laidByText := true, laidKinds := [.sentinel, .sentinel, .sentinel], laidTests := true, laidLooks := .later }
def BitsSumsCardSaid : Prop := Claim7.holds Tryd.pinned (.plain (OpenSpec.ofChange bitsSumsSpec)) bitsSumsCard

/-- THE TIED CARD OF 'selionlaw02.BitsFills'. -/
def bitsFillsCard : Claim7 := { stood := { row := bitsFillsRow, standIns := [], harness := (true, "79f6b41cd62a6c028e9011d4d4078bb4a8194d1d847610fd63cc70b37916cfc0"), looks := true }, kinds := [], alts := [], laidByText := true, laidKinds := [.sentinel, .sentinel, .sentinel], laidTests := true, laidLooks := .later }
def BitsFillsCardSaid : Prop := Claim7.holds Tryd.pinned (.plain (OpenSpec.ofChange bitsFillsSpec)) bitsFillsCard

/-- THE TIED CARD OF 'selionlaw02.BitsBack'. -/
def bitsBackCard : Claim7 := { stood := { row := bitsBackRow, standIns := [], harness := (true, "79f6b41cd62a6c028e9011d4d4078bb4a8194d1d847610fd63cc70b37916cfc0"), looks := true }, kinds := [], alts := [], laidByText := true, laidKinds := [.sentinel, .sentinel, .sentinel], laidTests := true, laidLooks := .later }
def BitsBackCardSaid : Prop := Claim7.holds Tryd.pinned (.plain (OpenSpec.ofChange bitsBackSpec)) bitsBackCard

/-- THE TIED CARD OF 'selionlaw02.BitsTells'. -/
def bitsTellsCard : Claim7 := { stood := { row := bitsTellsRow, standIns := [], harness := (true, "79f6b41cd62a6c028e9011d4d4078bb4a8194d1d847610fd63cc70b37916cfc0"), looks := true }, kinds := [], alts := [], laidByText := true, laidKinds := [.sentinel, .sentinel, .sentinel], laidTests := true, laidLooks := .later }
def BitsTellsCardSaid : Prop := Claim7.holds Tryd.pinned (.plain (OpenSpec.ofChange bitsTellsSpec)) bitsTellsCard

/-- THE TIED CARD OF 'selionlaw02.BitsEither'. -/
def bitsEitherCard : Claim7 := { stood := { row := bitsEitherRow, standIns := [], harness := (true, "79f6b41cd62a6c028e9011d4d4078bb4a8194d1d847610fd63cc70b37916cfc0"), looks := true }, kinds := [], alts := [], laidByText := true, laidKinds := [.sentinel, .sentinel, .sentinel], laidTests := true, laidLooks := .later }
def BitsEitherCardSaid : Prop := Claim7.holds Tryd.pinned (.plain (OpenSpec.ofChange bitsEitherSpec)) bitsEitherCard

/-- THE SECOND FORM's CARD OF 'selionlaw02.BitsSets'. -/
def bitsSetsUptoCard : Claim7 := { stood := { row := bitsSetsUptoRow, standIns := [], harness := (true, "79f6b41cd62a6c028e9011d4d4078bb4a8194d1d847610fd63cc70b37916cfc0"), looks := true }, kinds := [], alts := [], laidByText := true, laidKinds := [.sentinel, .sentinel, .sentinel], laidTests := true, laidLooks := .later }
def BitsSetsUptoCardSaid : Prop := Claim7.holds Tryd.pinned (.plain (OpenSpec.upto bitsSetsSpec)) bitsSetsUptoCard

/-- THE SECOND FORM's CARD OF 'selionlaw02.BitsWalks'. -/
def bitsWalksUptoCard : Claim7 := { stood := { row := bitsWalksUptoRow, standIns := [], harness := (true, "79f6b41cd62a6c028e9011d4d4078bb4a8194d1d847610fd63cc70b37916cfc0"), looks := true }, kinds := [], alts := [], laidByText := true, laidKinds := [.sentinel, .sentinel, .sentinel], laidTests := true, laidLooks := .later }
def BitsWalksUptoCardSaid : Prop := Claim7.holds Tryd.pinned (.plain (OpenSpec.upto bitsWalksSpec)) bitsWalksUptoCard

/-- THE SECOND FORM's CARD OF 'selionlaw02.BitsTurns'. -/
def bitsTurnsUptoCard : Claim7 := { stood := { row := bitsTurnsUptoRow, standIns := [], harness := (true, "79f6b41cd62a6c028e9011d4d4078bb4a8194d1d847610fd63cc70b37916cfc0"), looks := true }, kinds := [], alts := [], laidByText := true, laidKinds := [.sentinel, .sentinel, .sentinel], laidTests := true, laidLooks := .later }
def BitsTurnsUptoCardSaid : Prop := Claim7.holds Tryd.pinned (.plain (OpenSpec.upto bitsTurnsSpec)) bitsTurnsUptoCard

/-- THE SECOND FORM's CARD OF 'selionlaw02.BitsSums'. -/
def bitsSumsUptoCard : Claim7 := { stood := { row := bitsSumsUptoRow, standIns := [], harness := (true, "79f6b41cd62a6c028e9011d4d4078bb4a8194d1d847610fd63cc70b37916cfc0"), looks := true }, kinds := [], alts := [], laidByText := true, laidKinds := [.sentinel, .sentinel, .sentinel], laidTests := true, laidLooks := .later }
def BitsSumsUptoCardSaid : Prop := Claim7.holds Tryd.pinned (.plain (OpenSpec.upto bitsSumsSpec)) bitsSumsUptoCard

/-- THE SECOND FORM's CARD OF 'selionlaw02.BitsFills'. -/
def bitsFillsUptoCard : Claim7 := { stood := { row := bitsFillsUptoRow, standIns := [], harness := (true, "79f6b41cd62a6c028e9011d4d4078bb4a8194d1d847610fd63cc70b37916cfc0"), looks := true }, kinds := [], alts := [], laidByText := true, laidKinds := [.sentinel, .sentinel, .sentinel], laidTests := true, laidLooks := .later }
def BitsFillsUptoCardSaid : Prop := Claim7.holds Tryd.pinned (.plain (OpenSpec.upto bitsFillsSpec)) bitsFillsUptoCard

/-- THE SECOND FORM's CARD OF 'selionlaw02.BitsBack'. -/
def bitsBackUptoCard : Claim7 := { stood := { row := bitsBackUptoRow, standIns := [], harness := (true, "79f6b41cd62a6c028e9011d4d4078bb4a8194d1d847610fd63cc70b37916cfc0"), looks := true }, kinds := [], alts := [], laidByText := true, laidKinds := [.sentinel, .sentinel, .sentinel], laidTests := true, laidLooks := .later }
def BitsBackUptoCardSaid : Prop := Claim7.holds Tryd.pinned (.plain (OpenSpec.upto bitsBackSpec)) bitsBackUptoCard

/-- THE SECOND FORM's CARD OF 'selionlaw02.BitsTells'. -/
def bitsTellsUptoCard : Claim7 := { stood := { row := bitsTellsUptoRow, standIns := [], harness := (true, "79f6b41cd62a6c028e9011d4d4078bb4a8194d1d847610fd63cc70b37916cfc0"), looks := true }, kinds := [], alts := [], laidByText := true, laidKinds := [.sentinel, .sentinel, .sentinel], laidTests := true, laidLooks := .later }
def BitsTellsUptoCardSaid : Prop := Claim7.holds Tryd.pinned (.plain (OpenSpec.upto bitsTellsSpec)) bitsTellsUptoCard

/-- THE SECOND FORM's CARD OF 'selionlaw02.BitsEither'. -/
def bitsEitherUptoCard : Claim7 := { stood := { row := bitsEitherUptoRow, standIns := [], harness := (true, "79f6b41cd62a6c028e9011d4d4078bb4a8194d1d847610fd63cc70b37916cfc0"), looks := true }, kinds := [], alts := [], laidByText := true, laidKinds := [.sentinel, .sentinel, .sentinel], laidTests := true, laidLooks := .later }
def BitsEitherUptoCardSaid : Prop := Claim7.holds Tryd.pinned (.plain (OpenSpec.upto bitsEitherSpec)) bitsEitherUptoCard
end Rows
end Go.Proofs.YtlncilcoohmlkaaDoor

/-
  DERIVED. GIVEN WITH THE SEED: THE CARDS: each row of YtlfdfocjkdjhdaaDoorRows.lean that lists a variable, with what it lists TIED to the program's text (the seventh form; the later family's looks); each row that meets fmt, with fmt's text TOLD by the authors' own Lean function (tested against real Go, not proved from fmt's source: count such statements apart). THE CARD IS WHAT COUNTS. Prove the row's statement (the work); the ties are given (YtlfdfocjkdjhdaaDoorTie.lean); close each card by the builder's one call (the guide's Derived/Test/ToyasCard.lean, 'card_holds'). Laid BY PROGRAM, IN A SANDBOX (cutbox-door.mjs). By AI agents, Wed Nov 11 2026. No macro, syntax, notation, axiom, sorry.
-/
import Derived.Test.YtlfdfocjkdjhdaaDoorRows
import GoSem.ClaimSeven
namespace Go.Proofs.YtlfdfocjkdjhdaaDoor
namespace Rows

/-- THE TIED CARD OF 'selionlaw01.AddrPlaces'. -/
def addrPlacesCard : Claim7 := { stood := { row := addrPlacesRow, standIns := [], harness := (true, "580a0fc68a00d2e30c5997c8f8441f2c011f89be7918cafc195dedf58f983b28"), looks := true }, kinds := [], alts := [], laidByText := true, laidKinds := [.sentinel, .sentinel, .sentinel, .data], laidTests := true, laidLooks := .later }
def AddrPlacesCardSaid : Prop := Claim7.holds Tryd.pinned (.plain (OpenSpec.ofChange addrPlacesSpec)) addrPlacesCard

/-- THE TIED CARD OF 'selionlaw01.AddrBack'. -/
def addrBackCard : Claim7 := { stood := { row := addrBackRow, standIns := [], harness := (true, "580a0fc68a00d2e30c5997c8f8441f2c011f89be7918cafc195dedf58f983b28"), looks := true }, kinds := [], alts := [], laidByText := true, laidKinds := [.sentinel, .sentinel, .sentinel, .data], laidTests := true, laidLooks := .later }
def AddrBackCardSaid : Prop := Claim7.holds Tryd.pinned (.plain (OpenSpec.ofChange addrBackSpec)) addrBackCard

/-- THE TIED CARD OF 'selionlaw01.AddrSizes'. -/
def addrSizesCard : Claim7 := { stood := { row := addrSizesRow, standIns := [], harness := (true, "580a0fc68a00d2e30c5997c8f8441f2c011f89be7918cafc195dedf58f983b28"), looks := true }, kinds := [], alts := [], laidByText := true, laidKinds := [.sentinel, .sentinel, .sentinel, .data], laidTests := true, laidLooks := .later }
def AddrSizesCardSaid : Prop := Claim7.holds Tryd.pinned (.plain (OpenSpec.ofChange addrSizesSpec)) addrSizesCard

/-- THE TIED CARD OF 'selionlaw01.AddrGranules'. -/
def addrGranulesCard : Claim7 := { stood := { row := addrGranulesRow, standIns := [], harness := (true, "580a0fc68a00d2e30c5997c8f8441f2c011f89be7918cafc195dedf58f983b28"), looks := true }, kinds := [], alts := [], laidByText := true, laidKinds := [.sentinel, .sentinel, .sentinel, .data], laidTests := true, laidLooks := .later }
def AddrGranulesCardSaid : Prop := Claim7.holds Tryd.pinned (.plain (OpenSpec.ofChange addrGranulesSpec)) addrGranulesCard

/-- THE TIED CARD OF 'selionlaw01.AddrSpans'. -/
def addrSpansCard : Claim7 := { stood := { row := addrSpansRow, standIns := [], harness := (true, "580a0fc68a00d2e30c5997c8f8441f2c011f89be7918cafc195dedf58f983b28"), looks := true }, kinds := [], alts := [], laidByText := true, laidKinds := [.sentinel, .sentinel, .sentinel, .data], laidTests := true, laidLooks := .later }
def AddrSpansCardSaid : Prop := Claim7.holds Tryd.pinned (.plain (OpenSpec.ofChange addrSpansSpec)) addrSpansCard

/-- THE TIED CARD OF 'selionlaw01.AddrRounds'. -/
def addrRoundsCard : Claim7 := { stood := { row := addrRoundsRow, standIns := [], harness := (true, "580a0fc68a00d2e30c5997c8f8441f2c011f89be7918cafc195dedf58f983b28"), looks := true }, kinds := [], alts := [], laidByText := true, laidKinds := [.sentinel, .sentinel, .sentinel, .data], laidTests := true, laidLooks := .later }
def AddrRoundsCardSaid : Prop := Claim7.holds Tryd.pinned (.plain (OpenSpec.ofChange addrRoundsSpec)) addrRoundsCard

/-- THE TIED CARD OF 'selionlaw01.AddrNext'. -/
def addrNextCard : Claim7 := { stood := { row := addrNextRow, standIns := [], harness := (true, "580a0fc68a00d2e30c5997c8f8441f2c011f89be7918cafc195dedf58f983b28"), looks := true }, kinds := [], alts := [], laidByText := true, laidKinds := [.sentinel, .sentinel, .sentinel, .data], laidTests := true, laidLooks := .later }
def AddrNextCardSaid : Prop := Claim7.holds Tryd.pinned (.plain (OpenSpec.ofChange addrNextSpec)) addrNextCard

/-- THE TIED CARD OF 'selionlaw01.AddrRefs'. -/
def addrRefsCard : Claim7 := { stood := { row := addrRefsRow, standIns := [], harness := (true, "580a0fc68a00d2e30c5997c8f8441f2c011f89be7918cafc195dedf58f983b28"), looks := true }, kinds := [], alts := [], laidByText := true, laidKinds := [.sentinel, .sentinel, .sentinel, .data], laidTests := true, laidLooks := .later }
def AddrRefsCardSaid : Prop := Claim7.holds Tryd.pinned (.plain (OpenSpec.ofChange addrRefsSpec)) addrRefsCard

/-- THE SECOND FORM's CARD OF 'selionlaw01.AddrPlaces'. -/
def addrPlacesUptoCard : Claim7 := { stood := { row := addrPlacesUptoRow, standIns := [], harness := (true, "580a0fc68a00d2e30c5997c8f8441f2c011f89be7918cafc195dedf58f983b28"), looks := true }, kinds := [], alts := [], laidByText := true, laidKinds := [.sentinel, .sentinel, .sentinel, .data], laidTests := true, laidLooks := .later }
def AddrPlacesUptoCardSaid : Prop := Claim7.holds Tryd.pinned (.plain (OpenSpec.upto addrPlacesSpec)) addrPlacesUptoCard

/-- THE SECOND FORM's CARD OF 'selionlaw01.AddrBack'. -/
def addrBackUptoCard : Claim7 := { stood := { row := addrBackUptoRow, standIns := [], harness := (true, "580a0fc68a00d2e30c5997c8f8441f2c011f89be7918cafc195dedf58f983b28"), looks := true }, kinds := [], alts := [], laidByText := true, laidKinds := [.sentinel, .sentinel, .sentinel, .data], laidTests := true, laidLooks := .later }
def AddrBackUptoCardSaid : Prop := Claim7.holds Tryd.pinned (.plain (OpenSpec.upto addrBackSpec)) addrBackUptoCard

/-- THE SECOND FORM's CARD OF 'selionlaw01.AddrSizes'. -/
def addrSizesUptoCard : Claim7 := { stood := { row := addrSizesUptoRow, standIns := [], harness := (true, "580a0fc68a00d2e30c5997c8f8441f2c011f89be7918cafc195dedf58f983b28"), looks := true }, kinds := [], alts := [], laidByText := true, laidKinds := [.sentinel, .sentinel, .sentinel, .data], laidTests := true, laidLooks := .later }
def AddrSizesUptoCardSaid : Prop := Claim7.holds Tryd.pinned (.plain (OpenSpec.upto addrSizesSpec)) addrSizesUptoCard

/-- THE SECOND FORM's CARD OF 'selionlaw01.AddrGranules'. -/
def addrGranulesUptoCard : Claim7 := { stood := { row := addrGranulesUptoRow, standIns := [], harness := (true, "580a0fc68a00d2e30c5997c8f8441f2c011f89be7918cafc195dedf58f983b28"), looks := true }, kinds := [], alts := [], laidByText := true, laidKinds := [.sentinel, .sentinel, .sentinel, .data], laidTests := true, laidLooks := .later }
def AddrGranulesUptoCardSaid : Prop := Claim7.holds Tryd.pinned (.plain (OpenSpec.upto addrGranulesSpec)) addrGranulesUptoCard

/-- THE SECOND FORM's CARD OF 'selionlaw01.AddrSpans'. -/
def addrSpansUptoCard : Claim7 := { stood := { row := addrSpansUptoRow, standIns := [], harness := (true, "580a0fc68a00d2e30c5997c8f8441f2c011f89be7918cafc195dedf58f983b28"), looks := true }, kinds := [], alts := [], laidByText := true, laidKinds := [.sentinel, .sentinel, .sentinel, .data], laidTests := true, laidLooks := .later }
def AddrSpansUptoCardSaid : Prop := Claim7.holds Tryd.pinned (.plain (OpenSpec.upto addrSpansSpec)) addrSpansUptoCard

/-- THE SECOND FORM's CARD OF 'selionlaw01.AddrRounds'. -/
def addrRoundsUptoCard : Claim7 := { stood := { row := addrRoundsUptoRow, standIns := [], harness := (true, "580a0fc68a00d2e30c5997c8f8441f2c011f89be7918cafc195dedf58f983b28"), looks := true }, kinds := [], alts := [], laidByText := true, laidKinds := [.sentinel, .sentinel, .sentinel, .data], laidTests := true, laidLooks := .later }
def AddrRoundsUptoCardSaid : Prop := Claim7.holds Tryd.pinned (.plain (OpenSpec.upto addrRoundsSpec)) addrRoundsUptoCard

/-- THE SECOND FORM's CARD OF 'selionlaw01.AddrNext'. -/
def addrNextUptoCard : Claim7 := { stood := { row := addrNextUptoRow, standIns := [], harness := (true, "580a0fc68a00d2e30c5997c8f8441f2c011f89be7918cafc195dedf58f983b28"), looks := true }, kinds := [], alts := [], laidByText := true, laidKinds := [.sentinel, .sentinel, .sentinel, .data], laidTests := true, laidLooks := .later }
def AddrNextUptoCardSaid : Prop := Claim7.holds Tryd.pinned (.plain (OpenSpec.upto addrNextSpec)) addrNextUptoCard

/-- THE SECOND FORM's CARD OF 'selionlaw01.AddrRefs'. -/
def addrRefsUptoCard : Claim7 := { stood := { row := addrRefsUptoRow, standIns := [], harness := (true, "580a0fc68a00d2e30c5997c8f8441f2c011f89be7918cafc195dedf58f983b28"), looks := true }, kinds := [], alts := [], laidByText := true, laidKinds := [.sentinel, .sentinel, .sentinel, .data], laidTests := true, laidLooks := .later }
def AddrRefsUptoCardSaid : Prop := Claim7.holds Tryd.pinned (.plain (OpenSpec.upto addrRefsSpec)) addrRefsUptoCard
end Rows
end Go.Proofs.YtlfdfocjkdjhdaaDoor

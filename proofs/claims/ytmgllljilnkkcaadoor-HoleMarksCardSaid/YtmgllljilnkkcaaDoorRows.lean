/-
  NARROWER THAN 'FOR EVERY INPUT', by the rows' own cells (each row's printed sentence says how): HoleMarks: laid.
  DERIVED. THE GIVEN ROWS OF THIS SEAT. 1 by the template 'for every input the law returns true; each argument reads behind the call as it read before'; 0 by the template 'total and deterministic' (their statements: YtmgllljilnkkcaaDoorTotals.lean).
  GIVEN WITH THE SEED: the statements are not yours to turn. If you find one false, say at which input.
  Laid BY PROGRAM, IN A SANDBOX (cutbox-rows.mjs): the forced cells as the released guide's own fill.sh prints them over the translation 23b48b63e93ad2f9… (all of the seat's roots in one cut). By AI agents, Wed Nov 11 2026. No macro, syntax, notation, axiom, sorry.
-/
import Derived.Test.YtmgllljilnkkcaaDoorChecked
import GoSem.Claim
import GoSem.ClaimJoined
import GoSem.ClaimMapViews
import Derived.JoinedTies
import Derived.KernelRfl
namespace Go.Proofs.YtmgllljilnkkcaaDoor
/- THE CELL 'sum', in the pinned program and in every row, IS THE sha256 OF THE DUMP (.gsa) THAT YtmgllljilnkkcaaDoorProg.lean LOADS. Nothing in Lean hashes anything: it is a label: what it is worth is what the hold of that sum in a sandbox is worth. -/
noncomputable def Tryd.pinned : Pinned := { name := "ytmgllljilnkkcaadoor", sum := "23b48b63e93ad2f9d8af6c8ac674143c5ed79bec062b88325c46421fe6bc7380", checked := Tryd.checked }
namespace Rows
def none {H : Type} : Left H := { results := [], args := [] }

/- WHAT THE LISTED PACKAGE-LEVEL VARIABLES READ AS WHEN THE CALL BEGINS. Each datum BY PROGRAM (the guide's laid-datum.mjs) off the statement by which the dump's own 'gosem.cut.vars' lays the variable. In a bare row this is a premise. The card (YtmgllljilnkkcaaDoorCards.lean) ties it to the program's text. -/
def laid_selion_addr_errAddr {H : Type} : DataW H := .iface "*errors.errorString" (.ptr (.agg [.lit (.string [110, 111, 32, 97, 100, 100, 114, 101, 115, 115])]))
def laid_selion_addr_errSize {H : Type} : DataW H := .iface "*errors.errorString" (.ptr (.agg [.lit (.string [110, 111, 32, 115, 105, 122, 101])]))
def laid_selion_addr_errRef {H : Type} : DataW H := .iface "*errors.errorString" (.ptr (.agg [.lit (.string [110, 111, 32, 114, 101, 102, 101, 114, 101, 110, 99, 101])]))
def laid_selion_addr_classes {H : Type} : DataW H := .agg [.agg [.lit (.int .i64 1), .lit (.int .i64 128)], .agg [.lit (.int .i64 2), .lit (.int .i64 2048)], .agg [.lit (.int .i64 3), .lit (.int .i64 131072)]]
def laid_selion_marks_errTable {H : Type} : DataW H := .iface "*errors.errorString" (.ptr (.agg [.lit (.string [110, 111, 32, 116, 97, 98, 108, 101])]))
def laid_selion_marks_errSize {H : Type} : DataW H := .iface "*errors.errorString" (.ptr (.agg [.lit (.string [110, 111, 32, 101, 120, 116, 101, 110, 116])]))

/-- 'selionlaw08.HoleMarks': WHATEVER THE INPUT: true; the input reads as it did. -/
def holeMarksSpec : ChangeSpec := { name := "holeMarks", fn := fun _ => fun
  | [d1, d2, d3, d4] => { results := [.lit (.bool true)], args := [d1, d2, d3, d4] }
  | _ => none }
def holeMarksRow : OpenClaim := { program := "ytmgllljilnkkcaadoor", sum := "23b48b63e93ad2f9d8af6c8ac674143c5ed79bec062b88325c46421fe6bc7380", func := "selion/selionlaw08.HoleMarks", spec := "holeMarks", inPlace := ["internal/reflectlite.TypeOf"], unfollowed := true, recurses := true, named := ["selion/marks.errTable", "selion/marks.errSize", "selion/addr.classes", "selion/addr.errSize", "selion/addr.errAddr", "selion/addr.errRef"], apart := false, laid := [("selion/addr.errAddr", laid_selion_addr_errAddr), ("selion/addr.errSize", laid_selion_addr_errSize), ("selion/addr.errRef", laid_selion_addr_errRef), ("selion/addr.classes", laid_selion_addr_classes), ("selion/marks.errTable", laid_selion_marks_errTable), ("selion/marks.errSize", laid_selion_marks_errSize)] }
def HoleMarksSaid : Prop := holeMarksRow.holds Tryd.pinned (OpenSpec.ofChange holeMarksSpec)

/-- ITS FALSE NEIGHBOUR: 'it returns false'. Refute it at one input. -/
def holeMarksWrong : ChangeSpec := { name := "holeMarks", fn := fun _ => fun
  | [d1, d2, d3, d4] => { results := [.lit (.bool false)], args := [d1, d2, d3, d4] }
  | _ => none }
def HoleMarksWrongFalsely : Prop := holeMarksRow.holds Tryd.pinned (OpenSpec.ofChange holeMarksWrong)

/- THE SECOND FORM. 'bulk': how many values and letters a reading holds, each counted each time it is reached (what is shared counts as often as it is met; a slice's spare places count too). A statement '..UptoSaid' is the law's where the arguments, and the package variables that the reading takes, are together of bulk at most 1048576: NARROWER than '..Said'. Prove '..Said' where nothing that the law and all that it calls make is longer than what came in: it says more and counts as full. Else prove '..UptoSaid'. A law counts once. -/
mutual
def uptoBulk {H : Type} : DataW H → Nat
  | .lit (.string bytes) => bytes.length + 1
  | .lit _ => 1
  | .nil => 1
  | .ptr d => uptoBulk d + 1
  | .slice elems spare => uptoBulkAll elems + uptoBulkAll spare + 1
  | .agg parts => uptoBulkAll parts + 1
  | .iface _ d => uptoBulk d + 1
  | .map entries => uptoBulkEntries entries + 1
  | .held _ => 1
def uptoBulkAll {H : Type} : List (DataW H) → Nat
  | [] => 0
  | d :: r => uptoBulk d + uptoBulkAll r
def uptoBulkEntries {H : Type} : List (Lit × DataW H) → Nat
  | [] => 0
  | x :: r => uptoBulkEntry x + uptoBulkEntries r
def uptoBulkEntry {H : Type} : Lit × DataW H → Nat
  | (.string bytes, d) => bytes.length + uptoBulk d + 1
  | (_, d) => uptoBulk d + 1
 end
def uptoSmall : (H : Type) → List (DataW H) → Bool := fun _ ds => decide (uptoBulkAll ds ≤ 1048576)
def OpenSpec.upto (s : _root_.Go.ChangeSpec) : _root_.Go.OpenSpec := { _root_.Go.OpenSpec.ofChange s with cond := some uptoSmall }

/-- 'selionlaw08.HoleMarks', WHERE WHAT IT READS IS OF BULK AT MOST 1048576: true; the input reads as it did. -/
def holeMarksUptoRow : OpenClaim := { program := "ytmgllljilnkkcaadoor", sum := "23b48b63e93ad2f9d8af6c8ac674143c5ed79bec062b88325c46421fe6bc7380", func := "selion/selionlaw08.HoleMarks", spec := "holeMarks", inPlace := ["internal/reflectlite.TypeOf"], unfollowed := true, recurses := true, named := ["selion/marks.errTable", "selion/marks.errSize", "selion/addr.classes", "selion/addr.errSize", "selion/addr.errAddr", "selion/addr.errRef"], apart := false, laid := [("selion/addr.errAddr", laid_selion_addr_errAddr), ("selion/addr.errSize", laid_selion_addr_errSize), ("selion/addr.errRef", laid_selion_addr_errRef), ("selion/addr.classes", laid_selion_addr_classes), ("selion/marks.errTable", laid_selion_marks_errTable), ("selion/marks.errSize", laid_selion_marks_errSize)], narrowed := true }
def HoleMarksUptoSaid : Prop := holeMarksUptoRow.holds Tryd.pinned (OpenSpec.upto holeMarksSpec)

end Rows
end Go.Proofs.YtmgllljilnkkcaaDoor

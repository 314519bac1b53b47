/-
  NARROWER THAN 'FOR EVERY INPUT', by the rows' own cells (each row's printed sentence says how): MarksTurns: laid · MarksLines: laid · MarksKeeps: laid · MarksSmall: laid · MarksTells: laid · MarksMerges: laid.
  DERIVED. THE GIVEN ROWS OF THIS SEAT. 6 by the template 'for every input the law returns true; each argument reads behind the call as it read before'; 0 by the template 'total and deterministic' (their statements: YteilnojniilmaaaDoorTotals.lean).
  GIVEN WITH THE SEED: the statements are not yours to turn. If you find one false, say at which input.
  Laid BY PROGRAM, IN A SANDBOX (cutbox-rows.mjs): the forced cells as the released guide's own fill.sh prints them over the translation 72670d45ea79cf4c… (all of the seat's roots in one cut). By AI agents, Wed Nov 11 2026. No macro, syntax, notation, axiom, sorry.
-/
import Derived.Test.YteilnojniilmaaaDoorChecked
import GoSem.Claim
import GoSem.ClaimJoined
import GoSem.ClaimMapViews
import Derived.JoinedTies
import Derived.KernelRfl
namespace Go.Proofs.YteilnojniilmaaaDoor
/- THE CELL 'sum', in the pinned program and in every row, IS THE sha256 OF THE DUMP (.gsa) THAT YteilnojniilmaaaDoorProg.lean LOADS. Nothing in Lean hashes anything: it is a label: what it is worth is what the hold of that sum in a sandbox is worth. -/
noncomputable def Tryd.pinned : Pinned := { name := "yteilnojniilmaaadoor", sum := "72670d45ea79cf4cd9410961630bc93e22691baa5384301e74a4bc56d7e7102b", checked := Tryd.checked }
namespace Rows
def none {H : Type} : Left H := { results := [], args := [] }

/- WHAT THE LISTED PACKAGE-LEVEL VARIABLES READ AS WHEN THE CALL BEGINS. Each datum BY PROGRAM (the guide's laid-datum.mjs) off the statement by which the dump's own 'gosem.cut.vars' lays the variable. In a bare row this is a premise. The card (YteilnojniilmaaaDoorCards.lean) ties it to the program's text. -/
def laid_selion_addr_errAddr {H : Type} : DataW H := .iface "*errors.errorString" (.ptr (.agg [.lit (.string [110, 111, 32, 97, 100, 100, 114, 101, 115, 115])]))
def laid_selion_addr_errSize {H : Type} : DataW H := .iface "*errors.errorString" (.ptr (.agg [.lit (.string [110, 111, 32, 115, 105, 122, 101])]))
def laid_selion_addr_errRef {H : Type} : DataW H := .iface "*errors.errorString" (.ptr (.agg [.lit (.string [110, 111, 32, 114, 101, 102, 101, 114, 101, 110, 99, 101])]))
def laid_selion_addr_classes {H : Type} : DataW H := .agg [.agg [.lit (.int .i64 1), .lit (.int .i64 128)], .agg [.lit (.int .i64 2), .lit (.int .i64 2048)], .agg [.lit (.int .i64 3), .lit (.int .i64 131072)]]
def laid_selion_marks_errTable {H : Type} : DataW H := .iface "*errors.errorString" (.ptr (.agg [.lit (.string [110, 111, 32, 116, 97, 98, 108, 101])]))
def laid_selion_marks_errSize {H : Type} : DataW H := .iface "*errors.errorString" (.ptr (.agg [.lit (.string [110, 111, 32, 101, 120, 116, 101, 110, 116])]))

/-- 'selionlaw07.MarksTurns': WHATEVER THE INPUT: true; the input reads as it did. -/
def marksTurnsSpec : ChangeSpec := { name := "marksTurns", fn := fun _ => fun
  | [d1, d2, d3, d4, d5] => { results := [.lit (.bool true)], args := [d1, d2, d3, d4, d5] }
  | _ => none }
def marksTurnsRow : OpenClaim := { program := "yteilnojniilmaaadoor", sum := "72670d45ea79cf4cd9410961630bc93e22691baa5384301e74a4bc56d7e7102b", func := "selion/selionlaw07.MarksTurns", spec := "marksTurns", inPlace := ["internal/reflectlite.TypeOf"], unfollowed := true, recurses := true, named := ["selion/marks.errTable", "selion/marks.errSize", "selion/addr.classes", "selion/addr.errSize", "selion/addr.errAddr", "selion/addr.errRef"], apart := false, laid := [("selion/addr.errAddr", laid_selion_addr_errAddr), ("selion/addr.errSize", laid_selion_addr_errSize), ("selion/addr.errRef", laid_selion_addr_errRef), ("selion/addr.classes", laid_selion_addr_classes), ("selion/marks.errTable", laid_selion_marks_errTable), ("selion/marks.errSize", laid_selion_marks_errSize)] }
def MarksTurnsSaid : Prop := marksTurnsRow.holds Tryd.pinned (OpenSpec.ofChange marksTurnsSpec)

/-- ITS FALSE NEIGHBOUR: 'it returns false'. Refute it at one input. -/
def marksTurnsWrong : ChangeSpec := { name := "marksTurns", fn := fun _ => fun
  | [d1, d2, d3, d4, d5] => { results := [.lit (.bool false)], args := [d1, d2, d3, d4, d5] }
  | _ => none }
def MarksTurnsWrongFalsely : Prop := marksTurnsRow.holds Tryd.pinned (OpenSpec.ofChange marksTurnsWrong)

/-- 'selionlaw07.MarksLines': WHATEVER THE INPUT: true; the input reads as it did. -/
def marksLinesSpec : ChangeSpec := { name := "marksLines", fn := fun _ => fun
  | [d1, d2] => { results := [.lit (.bool true)], args := [d1, d2] }
  | _ => none }
def marksLinesRow : OpenClaim := { program := "yteilnojniilmaaadoor", sum := "72670d45ea79cf4cd9410961630bc93e22691baa5384301e74a4bc56d7e7102b", func := "selion/selionlaw07.MarksLines", spec := "marksLines", inPlace := ["internal/reflectlite.TypeOf"], unfollowed := true, recurses := true, named := ["selion/marks.errTable", "selion/marks.errSize", "selion/addr.classes", "selion/addr.errSize", "selion/addr.errAddr", "selion/addr.errRef"], apart := false, laid := [("selion/addr.errAddr", laid_selion_addr_errAddr), ("selion/addr.errSize", laid_selion_addr_errSize), ("selion/addr.errRef", laid_selion_addr_errRef), ("selion/addr.classes", laid_selion_addr_classes), ("selion/marks.errTable", laid_selion_marks_errTable), ("selion/marks.errSize", laid_selion_marks_errSize)] }
def MarksLinesSaid : Prop := marksLinesRow.holds Tryd.pinned (OpenSpec.ofChange marksLinesSpec)

/-- ITS FALSE NEIGHBOUR: 'it returns false'. Refute it at one input. -/
def marksLinesWrong : ChangeSpec := { name := "marksLines", fn := fun _ => fun
  | [d1, d2] => { results := [.lit (.bool false)], args := [d1, d2] }
  | _ => none }
def MarksLinesWrongFalsely : Prop := marksLinesRow.holds Tryd.pinned (OpenSpec.ofChange marksLinesWrong)

/-- 'selionlaw07.MarksKeeps': WHATEVER THE INPUT: true; the input reads as it did. -/
def marksKeepsSpec : ChangeSpec := { name := "marksKeeps", fn := fun _ => fun
  | [d1, d2, d3, d4] => { results := [.lit (.bool true)], args := [d1, d2, d3, d4] }
  | _ => none }
def marksKeepsRow : OpenClaim := { program := "yteilnojniilmaaadoor", sum := "72670d45ea79cf4cd9410961630bc93e22691baa5384301e74a4bc56d7e7102b", func := "selion/selionlaw07.MarksKeeps", spec := "marksKeeps", inPlace := ["internal/reflectlite.TypeOf"], unfollowed := true, recurses := true, named := ["selion/marks.errTable", "selion/marks.errSize", "selion/addr.classes", "selion/addr.errSize", "selion/addr.errAddr", "selion/addr.errRef"], apart := false, laid := [("selion/addr.errAddr", laid_selion_addr_errAddr), ("selion/addr.errSize", laid_selion_addr_errSize), ("selion/addr.errRef", laid_selion_addr_errRef), ("selion/addr.classes", laid_selion_addr_classes), ("selion/marks.errTable", laid_selion_marks_errTable), ("selion/marks.errSize", laid_selion_marks_errSize)] }
def MarksKeepsSaid : Prop := marksKeepsRow.holds Tryd.pinned (OpenSpec.ofChange marksKeepsSpec)

/-- ITS FALSE NEIGHBOUR: 'it returns false'. Refute it at one input. -/
def marksKeepsWrong : ChangeSpec := { name := "marksKeeps", fn := fun _ => fun
  | [d1, d2, d3, d4] => { results := [.lit (.bool false)], args := [d1, d2, d3, d4] }
  | _ => none }
def MarksKeepsWrongFalsely : Prop := marksKeepsRow.holds Tryd.pinned (OpenSpec.ofChange marksKeepsWrong)

/-- 'selionlaw07.MarksSmall': WHATEVER THE INPUT: true; the input reads as it did. -/
def marksSmallSpec : ChangeSpec := { name := "marksSmall", fn := fun _ => fun
  | [d1, d2, d3] => { results := [.lit (.bool true)], args := [d1, d2, d3] }
  | _ => none }
def marksSmallRow : OpenClaim := { program := "yteilnojniilmaaadoor", sum := "72670d45ea79cf4cd9410961630bc93e22691baa5384301e74a4bc56d7e7102b", func := "selion/selionlaw07.MarksSmall", spec := "marksSmall", inPlace := ["internal/reflectlite.TypeOf"], unfollowed := true, recurses := true, named := ["selion/marks.errTable", "selion/marks.errSize", "selion/addr.classes", "selion/addr.errSize", "selion/addr.errAddr", "selion/addr.errRef"], apart := false, laid := [("selion/addr.errAddr", laid_selion_addr_errAddr), ("selion/addr.errSize", laid_selion_addr_errSize), ("selion/addr.errRef", laid_selion_addr_errRef), ("selion/addr.classes", laid_selion_addr_classes), ("selion/marks.errTable", laid_selion_marks_errTable), ("selion/marks.errSize", laid_selion_marks_errSize)] }
def MarksSmallSaid : Prop := marksSmallRow.holds Tryd.pinned (OpenSpec.ofChange marksSmallSpec)

/-- ITS FALSE NEIGHBOUR: 'it returns false'. Refute it at one input. -/
def marksSmallWrong : ChangeSpec := { name := "marksSmall", fn := fun _ => fun
  | [d1, d2, d3] => { results := [.lit (.bool false)], args := [d1, d2, d3] }
  | _ => none }
def MarksSmallWrongFalsely : Prop := marksSmallRow.holds Tryd.pinned (OpenSpec.ofChange marksSmallWrong)

/-- 'selionlaw07.MarksTells': WHATEVER THE INPUT: true; the input reads as it did. -/
def marksTellsSpec : ChangeSpec := { name := "marksTells", fn := fun _ => fun
  | [d1, d2, d3, d4, d5] => { results := [.lit (.bool true)], args := [d1, d2, d3, d4, d5] }
  | _ => none }
def marksTellsRow : OpenClaim := { program := "yteilnojniilmaaadoor", sum := "72670d45ea79cf4cd9410961630bc93e22691baa5384301e74a4bc56d7e7102b", func := "selion/selionlaw07.MarksTells", spec := "marksTells", inPlace := ["internal/reflectlite.TypeOf"], unfollowed := true, recurses := true, named := ["selion/marks.errTable", "selion/marks.errSize", "selion/addr.classes", "selion/addr.errSize", "selion/addr.errAddr", "selion/addr.errRef"], apart := false, laid := [("selion/addr.errAddr", laid_selion_addr_errAddr), ("selion/addr.errSize", laid_selion_addr_errSize), ("selion/addr.errRef", laid_selion_addr_errRef), ("selion/addr.classes", laid_selion_addr_classes), ("selion/marks.errTable", laid_selion_marks_errTable), ("selion/marks.errSize", laid_selion_marks_errSize)] }
def MarksTellsSaid : Prop := marksTellsRow.holds Tryd.pinned (OpenSpec.ofChange marksTellsSpec)

/-- ITS FALSE NEIGHBOUR: 'it returns false'. Refute it at one input. -/
def marksTellsWrong : ChangeSpec := { name := "marksTells", fn := fun _ => fun
  | [d1, d2, d3, d4, d5] => { results := [.lit (.bool false)], args := [d1, d2, d3, d4, d5] }
  | _ => none }
def MarksTellsWrongFalsely : Prop := marksTellsRow.holds Tryd.pinned (OpenSpec.ofChange marksTellsWrong)

/-- 'selionlaw07.MarksMerges': WHATEVER THE INPUT: true; the input reads as it did. -/
def marksMergesSpec : ChangeSpec := { name := "marksMerges", fn := fun _ => fun
  | [d1, d2, d3, d4, d5] => { results := [.lit (.bool true)], args := [d1, d2, d3, d4, d5] }
  | _ => none }
def marksMergesRow : OpenClaim := { program := "yteilnojniilmaaadoor", sum := "72670d45ea79cf4cd9410961630bc93e22691baa5384301e74a4bc56d7e7102b", func := "selion/selionlaw07.MarksMerges", spec := "marksMerges", inPlace := ["internal/reflectlite.TypeOf"], unfollowed := true, recurses := true, named := ["selion/marks.errTable", "selion/marks.errSize", "selion/addr.classes", "selion/addr.errSize", "selion/addr.errAddr", "selion/addr.errRef"], apart := false, laid := [("selion/addr.errAddr", laid_selion_addr_errAddr), ("selion/addr.errSize", laid_selion_addr_errSize), ("selion/addr.errRef", laid_selion_addr_errRef), ("selion/addr.classes", laid_selion_addr_classes), ("selion/marks.errTable", laid_selion_marks_errTable), ("selion/marks.errSize", laid_selion_marks_errSize)] }
def MarksMergesSaid : Prop := marksMergesRow.holds Tryd.pinned (OpenSpec.ofChange marksMergesSpec)

/-- ITS FALSE NEIGHBOUR: 'it returns false'. Refute it at one input. -/
def marksMergesWrong : ChangeSpec := { name := "marksMerges", fn := fun _ => fun
  | [d1, d2, d3, d4, d5] => { results := [.lit (.bool false)], args := [d1, d2, d3, d4, d5] }
  | _ => none }
def MarksMergesWrongFalsely : Prop := marksMergesRow.holds Tryd.pinned (OpenSpec.ofChange marksMergesWrong)

/- THE SECOND FORM. 'bulk': how many values and letters a reading holds, each counted each time it is reached (what is shared counts as often as it is met; a slice's spare places count too). A statement '..UptoSaid' is the law's where the arguments, and the package variables that the reading takes, are together of bulk at most 1048576: NARROWER than '..Said'. Prove '..Said' where nothing that the law and all that it calls make is longer than what came in: it says more and counts as full. Else prove '..UptoSaid'. A law counts once. -/
mutual
def uptoBulk {H : Type} : DataW H → Nat
  | .lit (.string bytes) => bytes.length + 1
  | .lit _ => 1
  | .nil => 1
  | .ptr d => uptoBulk d + 1
  | .slice elems spare => uptoBulkAll elems + uptoBulkAll spare + 1
  | .agg parts => uptoBulkAll parts + 1
  | .iface _ d => uptoBulk d + 1
  | .map entries => uptoBulkEntries entries + 1
  | .held _ => 1
def uptoBulkAll {H : Type} : List (DataW H) → Nat
  | [] => 0
  | d :: r => uptoBulk d + uptoBulkAll r
def uptoBulkEntries {H : Type} : List (Lit × DataW H) → Nat
  | [] => 0
  | x :: r => uptoBulkEntry x + uptoBulkEntries r
def uptoBulkEntry {H : Type} : Lit × DataW H → Nat
  | (.string bytes, d) => bytes.length + uptoBulk d + 1
  | (_, d) => uptoBulk d + 1
 end
def uptoSmall : (H : Type) → List (DataW H) → Bool := fun _ ds => decide (uptoBulkAll ds ≤ 1048576)
def OpenSpec.upto (s : _root_.Go.ChangeSpec) : _root_.Go.OpenSpec := { _root_.Go.OpenSpec.ofChange s with cond := some uptoSmall }

/-- 'selionlaw07.MarksTurns', WHERE WHAT IT READS IS OF BULK AT MOST 1048576: true; the input reads as it did. -/
def marksTurnsUptoRow : OpenClaim := { program := "yteilnojniilmaaadoor", sum := "72670d45ea79cf4cd9410961630bc93e22691baa5384301e74a4bc56d7e7102b", func := "selion/selionlaw07.MarksTurns", spec := "marksTurns", inPlace := ["internal/reflectlite.TypeOf"], unfollowed := true, recurses := true, named := ["selion/marks.errTable", "selion/marks.errSize", "selion/addr.classes", "selion/addr.errSize", "selion/addr.errAddr", "selion/addr.errRef"], apart := false, laid := [("selion/addr.errAddr", laid_selion_addr_errAddr), ("selion/addr.errSize", laid_selion_addr_errSize), ("selion/addr.errRef", laid_selion_addr_errRef), ("selion/addr.classes", laid_selion_addr_classes), ("selion/marks.errTable", laid_selion_marks_errTable), ("selion/marks.errSize", laid_selion_marks_errSize)], narrowed := true }
def MarksTurnsUptoSaid : Prop := marksTurnsUptoRow.holds Tryd.pinned (OpenSpec.upto marksTurnsSpec)

/-- 'selionlaw07.MarksLines', WHERE WHAT IT READS IS OF BULK AT MOST 1048576: true; the input reads as it did. -/
def marksLinesUptoRow : OpenClaim := { program := "yteilnojniilmaaadoor", sum := "72670d45ea79cf4cd9410961630bc93e22691baa5384301e74a4bc56d7e7102b", func := "selion/selionlaw07.MarksLines", spec := "marksLines", inPlace := ["internal/reflectlite.TypeOf"], unfollowed := true, recurses := true, named := ["selion/marks.errTable", "selion/marks.errSize", "selion/addr.classes", "selion/addr.errSize", "selion/addr.errAddr", "selion/addr.errRef"], apart := false, laid := [("selion/addr.errAddr", laid_selion_addr_errAddr), ("selion/addr.errSize", laid_selion_addr_errSize), ("selion/addr.errRef", laid_selion_addr_errRef), ("selion/addr.classes", laid_selion_addr_classes), ("selion/marks.errTable", laid_selion_marks_errTable), ("selion/marks.errSize", laid_selion_marks_errSize)], narrowed := true }
def MarksLinesUptoSaid : Prop := marksLinesUptoRow.holds Tryd.pinned (OpenSpec.upto marksLinesSpec)

/-- 'selionlaw07.MarksKeeps', WHERE WHAT IT READS IS OF BULK AT MOST 1048576: true; the input reads as it did. -/
def marksKeepsUptoRow : OpenClaim := { program := "yteilnojniilmaaadoor", sum := "72670d45ea79cf4cd9410961630bc93e22691baa5384301e74a4bc56d7e7102b", func := "selion/selionlaw07.MarksKeeps", spec := "marksKeeps", inPlace := ["internal/reflectlite.TypeOf"], unfollowed := true, recurses := true, named := ["selion/marks.errTable", "selion/marks.errSize", "selion/addr.classes", "selion/addr.errSize", "selion/addr.errAddr", "selion/addr.errRef"], apart := false, laid := [("selion/addr.errAddr", laid_selion_addr_errAddr), ("selion/addr.errSize", laid_selion_addr_errSize), ("selion/addr.errRef", laid_selion_addr_errRef), ("selion/addr.classes", laid_selion_addr_classes), ("selion/marks.errTable", laid_selion_marks_errTable), ("selion/marks.errSize", laid_selion_marks_errSize)], narrowed := true }
def MarksKeepsUptoSaid : Prop := marksKeepsUptoRow.holds Tryd.pinned (OpenSpec.upto marksKeepsSpec)

/-- 'selionlaw07.MarksSmall', WHERE WHAT IT READS IS OF BULK AT MOST 1048576: true; the input reads as it did. -/
def marksSmallUptoRow : OpenClaim := { program := "yteilnojniilmaaadoor", sum := "72670d45ea79cf4cd9410961630bc93e22691baa5384301e74a4bc56d7e7102b", func := "selion/selionlaw07.MarksSmall", spec := "marksSmall", inPlace := ["internal/reflectlite.TypeOf"], unfollowed := true, recurses := true, named := ["selion/marks.errTable", "selion/marks.errSize", "selion/addr.classes", "selion/addr.errSize", "selion/addr.errAddr", "selion/addr.errRef"], apart := false, laid := [("selion/addr.errAddr", laid_selion_addr_errAddr), ("selion/addr.errSize", laid_selion_addr_errSize), ("selion/addr.errRef", laid_selion_addr_errRef), ("selion/addr.classes", laid_selion_addr_classes), ("selion/marks.errTable", laid_selion_marks_errTable), ("selion/marks.errSize", laid_selion_marks_errSize)], narrowed := true }
def MarksSmallUptoSaid : Prop := marksSmallUptoRow.holds Tryd.pinned (OpenSpec.upto marksSmallSpec)

/-- 'selionlaw07.MarksTells', WHERE WHAT IT READS IS OF BULK AT MOST 1048576: true; the input reads as it did. -/
def marksTellsUptoRow : OpenClaim := { program := "yteilnojniilmaaadoor", sum := "72670d45ea79cf4cd9410961630bc93e22691baa5384301e74a4bc56d7e7102b", func := "selion/selionlaw07.MarksTells", spec := "marksTells", inPlace := ["internal/reflectlite.TypeOf"], unfollowed := true, recurses := true, named := ["selion/marks.errTable", "selion/marks.errSize", "selion/addr.classes", "selion/addr.errSize", "selion/addr.errAddr", "selion/addr.errRef"], apart := false, laid := [("selion/addr.errAddr", laid_selion_addr_errAddr), ("selion/addr.errSize", laid_selion_addr_errSize), ("selion/addr.errRef", laid_selion_addr_errRef), ("selion/addr.classes", laid_selion_addr_classes), ("selion/marks.errTable", laid_selion_marks_errTable), ("selion/marks.errSize", laid_selion_marks_errSize)], narrowed := true }
def MarksTellsUptoSaid : Prop := marksTellsUptoRow.holds Tryd.pinned (OpenSpec.upto marksTellsSpec)

/-- 'selionlaw07.MarksMerges', WHERE WHAT IT READS IS OF BULK AT MOST 1048576: true; the input reads as it did. -/
def marksMergesUptoRow : OpenClaim := { program := "yteilnojniilmaaadoor", sum := "72670d45ea79cf4cd9410961630bc93e22691baa5384301e74a4bc56d7e7102b", func := "selion/selionlaw07.MarksMerges", spec := "marksMerges", inPlace := ["internal/reflectlite.TypeOf"], unfollowed := true, recurses := true, named := ["selion/marks.errTable", "selion/marks.errSize", "selion/addr.classes", "selion/addr.errSize", "selion/addr.errAddr", "selion/addr.errRef"], apart := false, laid := [("selion/addr.errAddr", laid_selion_addr_errAddr), ("selion/addr.errSize", laid_selion_addr_errSize), ("selion/addr.errRef", laid_selion_addr_errRef), ("selion/addr.classes", laid_selion_addr_classes), ("selion/marks.errTable", laid_selion_marks_errTable), ("selion/marks.errSize", laid_selion_marks_errSize)], narrowed := true }
def MarksMergesUptoSaid : Prop := marksMergesUptoRow.holds Tryd.pinned (OpenSpec.upto marksMergesSpec)

end Rows
end Go.Proofs.YteilnojniilmaaaDoor

/-
  NARROWER THAN 'FOR EVERY INPUT', by the rows' own cells (each row's printed sentence says how): HeadCodes: laid · HeadByte: laid · HeadTurns: laid · HeadApart: laid · HeadPuts: laid · HeadBack: laid.
  DERIVED. THE GIVEN ROWS OF THIS SEAT. 6 by the template 'for every input the law returns true; each argument reads behind the call as it read before'; 0 by the template 'total and deterministic' (their statements: YtdhligapadblgaaDoorTotals.lean).
  GIVEN WITH THE SEED: the statements are not yours to turn. If you find one false, say at which input.
  Laid BY PROGRAM, IN A SANDBOX (cutbox-rows.mjs): the forced cells as the released guide's own fill.sh prints them over the translation 76c3aa93f34ed33d… (all of the seat's roots in one cut). By AI agents, Wed Nov 11 2026. No macro, syntax, notation, axiom, sorry.
-/
import Derived.Test.YtdhligapadblgaaDoorChecked
import GoSem.Claim
import GoSem.ClaimJoined
import GoSem.ClaimMapViews
import Derived.JoinedTies
import Derived.KernelRfl
namespace Go.Proofs.YtdhligapadblgaaDoor
/- THE CELL 'sum', in the pinned program and in every row, IS THE sha256 OF THE DUMP (.gsa) THAT YtdhligapadblgaaDoorProg.lean LOADS. Nothing in Lean hashes anything: it is a label: what it is worth is what the hold of that sum in a sandbox is worth. -/
noncomputable def Tryd.pinned : Pinned := { name := "ytdhligapadblgaadoor", sum := "76c3aa93f34ed33dcef1389806b9a194da6ff7dfef1c938629654923bb442382", checked := Tryd.checked }
namespace Rows
def none {H : Type} : Left H := { results := [], args := [] }

/- WHAT THE LISTED PACKAGE-LEVEL VARIABLES READ AS WHEN THE CALL BEGINS. Each datum BY PROGRAM (the guide's laid-datum.mjs) off the statement by which the dump's own 'gosem.cut.vars' lays the variable. In a bare row this is a premise. The card (YtdhligapadblgaaDoorCards.lean) ties it to the program's text. -/
def laid_selion_arena_errNil {H : Type} : DataW H := .iface "*errors.errorString" (.ptr (.agg [.lit (.string [110, 111, 32, 97, 114, 101, 110, 97])]))
def laid_selion_arena_errArg {H : Type} : DataW H := .iface "*errors.errorString" (.ptr (.agg [.lit (.string [110, 111, 32, 115, 117, 99, 104, 32, 111, 110, 101])]))
def laid_selion_arena_errAddr {H : Type} : DataW H := .iface "*errors.errorString" (.ptr (.agg [.lit (.string [110, 111, 32, 97, 100, 100, 114, 101, 115, 115])]))
def laid_selion_head_errNil {H : Type} : DataW H := .iface "*errors.errorString" (.ptr (.agg [.lit (.string [110, 111, 32, 97, 114, 101, 110, 97])]))
def laid_selion_head_errHead {H : Type} : DataW H := .iface "*errors.errorString" (.ptr (.agg [.lit (.string [110, 111, 32, 104, 101, 97, 100])]))
def laid_selion_head_errAddr {H : Type} : DataW H := .iface "*errors.errorString" (.ptr (.agg [.lit (.string [110, 111, 32, 97, 100, 100, 114, 101, 115, 115])]))
def laid_selion_head_parts {H : Type} : DataW H := .agg [.agg [.lit (.int .i64 1), .lit (.int .i64 60), .lit (.int .i64 1)], .agg [.lit (.int .i64 1), .lit (.int .i64 3), .lit (.int .i64 1)], .agg [.lit (.int .i64 0), .lit (.int .i64 255), .lit (.int .i64 1)], .agg [.lit (.int .i64 0), .lit (.int .i64 40000), .lit (.int .i64 3)]]
def laid_selion_addr_errAddr {H : Type} : DataW H := .iface "*errors.errorString" (.ptr (.agg [.lit (.string [110, 111, 32, 97, 100, 100, 114, 101, 115, 115])]))
def laid_selion_addr_errSize {H : Type} : DataW H := .iface "*errors.errorString" (.ptr (.agg [.lit (.string [110, 111, 32, 115, 105, 122, 101])]))
def laid_selion_addr_errRef {H : Type} : DataW H := .iface "*errors.errorString" (.ptr (.agg [.lit (.string [110, 111, 32, 114, 101, 102, 101, 114, 101, 110, 99, 101])]))

/-- 'selionlaw06.HeadCodes': WHATEVER THE INPUT: true; the input reads as it did. -/
def headCodesSpec : ChangeSpec := { name := "headCodes", fn := fun _ => fun
  | [d1, d2, d3] => { results := [.lit (.bool true)], args := [d1, d2, d3] }
  | _ => none }
def headCodesRow : OpenClaim := { program := "ytdhligapadblgaadoor", sum := "76c3aa93f34ed33dcef1389806b9a194da6ff7dfef1c938629654923bb442382", func := "selion/selionlaw06.HeadCodes", spec := "headCodes", inPlace := ["internal/reflectlite.TypeOf"], unfollowed := true, recurses := true, named := ["selion/head.errHead", "selion/head.parts", "selion/head.errNil", "selion/head.errAddr", "selion/arena.errNil", "selion/arena.errAddr", "selion/arena.errArg"], apart := false, laid := [("selion/arena.errNil", laid_selion_arena_errNil), ("selion/arena.errArg", laid_selion_arena_errArg), ("selion/arena.errAddr", laid_selion_arena_errAddr), ("selion/head.errNil", laid_selion_head_errNil), ("selion/head.errHead", laid_selion_head_errHead), ("selion/head.errAddr", laid_selion_head_errAddr), ("selion/head.parts", laid_selion_head_parts)] }
def HeadCodesSaid : Prop := headCodesRow.holds Tryd.pinned (OpenSpec.ofChange headCodesSpec)

/-- ITS FALSE NEIGHBOUR: 'it returns false'. Refute it at one input. -/
def headCodesWrong : ChangeSpec := { name := "headCodes", fn := fun _ => fun
  | [d1, d2, d3] => { results := [.lit (.bool false)], args := [d1, d2, d3] }
  | _ => none }
def HeadCodesWrongFalsely : Prop := headCodesRow.holds Tryd.pinned (OpenSpec.ofChange headCodesWrong)

/-- 'selionlaw06.HeadByte': WHATEVER THE INPUT: true; the input reads as it did. -/
def headByteSpec : ChangeSpec := { name := "headByte", fn := fun _ => fun
  | [d1, d2, d3] => { results := [.lit (.bool true)], args := [d1, d2, d3] }
  | _ => none }
def headByteRow : OpenClaim := { program := "ytdhligapadblgaadoor", sum := "76c3aa93f34ed33dcef1389806b9a194da6ff7dfef1c938629654923bb442382", func := "selion/selionlaw06.HeadByte", spec := "headByte", inPlace := ["internal/reflectlite.TypeOf"], unfollowed := true, recurses := true, named := ["selion/head.errHead", "selion/head.parts", "selion/head.errNil", "selion/head.errAddr", "selion/arena.errNil", "selion/arena.errAddr", "selion/arena.errArg"], apart := false, laid := [("selion/arena.errNil", laid_selion_arena_errNil), ("selion/arena.errArg", laid_selion_arena_errArg), ("selion/arena.errAddr", laid_selion_arena_errAddr), ("selion/head.errNil", laid_selion_head_errNil), ("selion/head.errHead", laid_selion_head_errHead), ("selion/head.errAddr", laid_selion_head_errAddr), ("selion/head.parts", laid_selion_head_parts)] }
def HeadByteSaid : Prop := headByteRow.holds Tryd.pinned (OpenSpec.ofChange headByteSpec)

/-- ITS FALSE NEIGHBOUR: 'it returns false'. Refute it at one input. -/
def headByteWrong : ChangeSpec := { name := "headByte", fn := fun _ => fun
  | [d1, d2, d3] => { results := [.lit (.bool false)], args := [d1, d2, d3] }
  | _ => none }
def HeadByteWrongFalsely : Prop := headByteRow.holds Tryd.pinned (OpenSpec.ofChange headByteWrong)

/-- 'selionlaw06.HeadTurns': WHATEVER THE INPUT: true; the input reads as it did. -/
def headTurnsSpec : ChangeSpec := { name := "headTurns", fn := fun _ => fun
  | [d1, d2] => { results := [.lit (.bool true)], args := [d1, d2] }
  | _ => none }
def headTurnsRow : OpenClaim := { program := "ytdhligapadblgaadoor", sum := "76c3aa93f34ed33dcef1389806b9a194da6ff7dfef1c938629654923bb442382", func := "selion/selionlaw06.HeadTurns", spec := "headTurns", inPlace := ["internal/reflectlite.TypeOf"], unfollowed := true, recurses := true, named := ["selion/head.errHead", "selion/head.parts", "selion/head.errNil", "selion/head.errAddr", "selion/arena.errNil", "selion/arena.errAddr", "selion/arena.errArg"], apart := false, laid := [("selion/arena.errNil", laid_selion_arena_errNil), ("selion/arena.errArg", laid_selion_arena_errArg), ("selion/arena.errAddr", laid_selion_arena_errAddr), ("selion/head.errNil", laid_selion_head_errNil), ("selion/head.errHead", laid_selion_head_errHead), ("selion/head.errAddr", laid_selion_head_errAddr), ("selion/head.parts", laid_selion_head_parts)] }
def HeadTurnsSaid : Prop := headTurnsRow.holds Tryd.pinned (OpenSpec.ofChange headTurnsSpec)

/-- ITS FALSE NEIGHBOUR: 'it returns false'. Refute it at one input. -/
def headTurnsWrong : ChangeSpec := { name := "headTurns", fn := fun _ => fun
  | [d1, d2] => { results := [.lit (.bool false)], args := [d1, d2] }
  | _ => none }
def HeadTurnsWrongFalsely : Prop := headTurnsRow.holds Tryd.pinned (OpenSpec.ofChange headTurnsWrong)

/-- 'selionlaw06.HeadApart': WHATEVER THE INPUT: true; the input reads as it did. -/
def headApartSpec : ChangeSpec := { name := "headApart", fn := fun _ => fun
  | [d1, d2] => { results := [.lit (.bool true)], args := [d1, d2] }
  | _ => none }
def headApartRow : OpenClaim := { program := "ytdhligapadblgaadoor", sum := "76c3aa93f34ed33dcef1389806b9a194da6ff7dfef1c938629654923bb442382", func := "selion/selionlaw06.HeadApart", spec := "headApart", inPlace := ["internal/reflectlite.TypeOf"], unfollowed := true, recurses := true, named := ["selion/head.errHead", "selion/head.parts", "selion/head.errNil", "selion/head.errAddr", "selion/arena.errNil", "selion/arena.errAddr", "selion/arena.errArg"], apart := false, laid := [("selion/arena.errNil", laid_selion_arena_errNil), ("selion/arena.errArg", laid_selion_arena_errArg), ("selion/arena.errAddr", laid_selion_arena_errAddr), ("selion/head.errNil", laid_selion_head_errNil), ("selion/head.errHead", laid_selion_head_errHead), ("selion/head.errAddr", laid_selion_head_errAddr), ("selion/head.parts", laid_selion_head_parts)] }
def HeadApartSaid : Prop := headApartRow.holds Tryd.pinned (OpenSpec.ofChange headApartSpec)

/-- ITS FALSE NEIGHBOUR: 'it returns false'. Refute it at one input. -/
def headApartWrong : ChangeSpec := { name := "headApart", fn := fun _ => fun
  | [d1, d2] => { results := [.lit (.bool false)], args := [d1, d2] }
  | _ => none }
def HeadApartWrongFalsely : Prop := headApartRow.holds Tryd.pinned (OpenSpec.ofChange headApartWrong)

/-- 'selionlaw06.HeadPuts': WHATEVER THE INPUT: true; the input reads as it did. -/
def headPutsSpec : ChangeSpec := { name := "headPuts", fn := fun _ => fun
  | [d1, d2, d3, d4, d5] => { results := [.lit (.bool true)], args := [d1, d2, d3, d4, d5] }
  | _ => none }
def headPutsRow : OpenClaim := { program := "ytdhligapadblgaadoor", sum := "76c3aa93f34ed33dcef1389806b9a194da6ff7dfef1c938629654923bb442382", func := "selion/selionlaw06.HeadPuts", spec := "headPuts", inPlace := ["internal/reflectlite.TypeOf"], unfollowed := true, recurses := true, named := ["selion/head.errHead", "selion/head.parts", "selion/head.errNil", "selion/head.errAddr", "selion/arena.errNil", "selion/arena.errAddr", "selion/arena.errArg", "selion/addr.errAddr", "selion/addr.errSize", "selion/addr.errRef"], apart := false, laid := [("selion/addr.errAddr", laid_selion_addr_errAddr), ("selion/addr.errSize", laid_selion_addr_errSize), ("selion/addr.errRef", laid_selion_addr_errRef), ("selion/arena.errNil", laid_selion_arena_errNil), ("selion/arena.errArg", laid_selion_arena_errArg), ("selion/arena.errAddr", laid_selion_arena_errAddr), ("selion/head.errNil", laid_selion_head_errNil), ("selion/head.errHead", laid_selion_head_errHead), ("selion/head.errAddr", laid_selion_head_errAddr), ("selion/head.parts", laid_selion_head_parts)] }
def HeadPutsSaid : Prop := headPutsRow.holds Tryd.pinned (OpenSpec.ofChange headPutsSpec)

/-- ITS FALSE NEIGHBOUR: 'it returns false'. Refute it at one input. -/
def headPutsWrong : ChangeSpec := { name := "headPuts", fn := fun _ => fun
  | [d1, d2, d3, d4, d5] => { results := [.lit (.bool false)], args := [d1, d2, d3, d4, d5] }
  | _ => none }
def HeadPutsWrongFalsely : Prop := headPutsRow.holds Tryd.pinned (OpenSpec.ofChange headPutsWrong)

/-- 'selionlaw06.HeadBack': WHATEVER THE INPUT: true; the input reads as it did. -/
def headBackSpec : ChangeSpec := { name := "headBack", fn := fun _ => fun
  | [d1, d2, d3] => { results := [.lit (.bool true)], args := [d1, d2, d3] }
  | _ => none }
def headBackRow : OpenClaim := { program := "ytdhligapadblgaadoor", sum := "76c3aa93f34ed33dcef1389806b9a194da6ff7dfef1c938629654923bb442382", func := "selion/selionlaw06.HeadBack", spec := "headBack", inPlace := ["internal/reflectlite.TypeOf"], unfollowed := true, recurses := true, named := ["selion/head.errHead", "selion/head.parts", "selion/head.errNil", "selion/head.errAddr", "selion/arena.errNil", "selion/arena.errAddr", "selion/arena.errArg", "selion/addr.errAddr", "selion/addr.errSize", "selion/addr.errRef"], apart := false, laid := [("selion/addr.errAddr", laid_selion_addr_errAddr), ("selion/addr.errSize", laid_selion_addr_errSize), ("selion/addr.errRef", laid_selion_addr_errRef), ("selion/arena.errNil", laid_selion_arena_errNil), ("selion/arena.errArg", laid_selion_arena_errArg), ("selion/arena.errAddr", laid_selion_arena_errAddr), ("selion/head.errNil", laid_selion_head_errNil), ("selion/head.errHead", laid_selion_head_errHead), ("selion/head.errAddr", laid_selion_head_errAddr), ("selion/head.parts", laid_selion_head_parts)] }
def HeadBackSaid : Prop := headBackRow.holds Tryd.pinned (OpenSpec.ofChange headBackSpec)

/-- ITS FALSE NEIGHBOUR: 'it returns false'. Refute it at one input. -/
def headBackWrong : ChangeSpec := { name := "headBack", fn := fun _ => fun
  | [d1, d2, d3] => { results := [.lit (.bool false)], args := [d1, d2, d3] }
  | _ => none }
def HeadBackWrongFalsely : Prop := headBackRow.holds Tryd.pinned (OpenSpec.ofChange headBackWrong)

/- THE SECOND FORM. 'bulk': how many values and letters a reading holds, each counted each time it is reached (what is shared counts as often as it is met; a slice's spare places count too). A statement '..UptoSaid' is the law's where the arguments, and the package variables that the reading takes, are together of bulk at most 1048576: NARROWER than '..Said'. Prove '..Said' where nothing that the law and all that it calls make is longer than what came in: it says more and counts as full. Else prove '..UptoSaid'. A law counts once. -/
mutual
def uptoBulk {H : Type} : DataW H → Nat
  | .lit (.string bytes) => bytes.length + 1
  | .lit _ => 1
  | .nil => 1
  | .ptr d => uptoBulk d + 1
  | .slice elems spare => uptoBulkAll elems + uptoBulkAll spare + 1
  | .agg parts => uptoBulkAll parts + 1
  | .iface _ d => uptoBulk d + 1
  | .map entries => uptoBulkEntries entries + 1
  | .held _ => 1
def uptoBulkAll {H : Type} : List (DataW H) → Nat
  | [] => 0
  | d :: r => uptoBulk d + uptoBulkAll r
def uptoBulkEntries {H : Type} : List (Lit × DataW H) → Nat
  | [] => 0
  | x :: r => uptoBulkEntry x + uptoBulkEntries r
def uptoBulkEntry {H : Type} : Lit × DataW H → Nat
  | (.string bytes, d) => bytes.length + uptoBulk d + 1
  | (_, d) => uptoBulk d + 1
 end
def uptoSmall : (H : Type) → List (DataW H) → Bool := fun _ ds => decide (uptoBulkAll ds ≤ 1048576)
def OpenSpec.upto (s : _root_.Go.ChangeSpec) : _root_.Go.OpenSpec := { _root_.Go.OpenSpec.ofChange s with cond := some uptoSmall }

/-- 'selionlaw06.HeadCodes', WHERE WHAT IT READS IS OF BULK AT MOST 1048576: true; the input reads as it did. -/
def headCodesUptoRow : OpenClaim := { program := "ytdhligapadblgaadoor", sum := "76c3aa93f34ed33dcef1389806b9a194da6ff7dfef1c938629654923bb442382", func := "selion/selionlaw06.HeadCodes", spec := "headCodes", inPlace := ["internal/reflectlite.TypeOf"], unfollowed := true, recurses := true, named := ["selion/head.errHead", "selion/head.parts", "selion/head.errNil", "selion/head.errAddr", "selion/arena.errNil", "selion/arena.errAddr", "selion/arena.errArg"], apart := false, laid := [("selion/arena.errNil", laid_selion_arena_errNil), ("selion/arena.errArg", laid_selion_arena_errArg), ("selion/arena.errAddr", laid_selion_arena_errAddr), ("selion/head.errNil", laid_selion_head_errNil), ("selion/head.errHead", laid_selion_head_errHead), ("selion/head.errAddr", laid_selion_head_errAddr), ("selion/head.parts", laid_selion_head_parts)], narrowed := true }
def HeadCodesUptoSaid : Prop := headCodesUptoRow.holds Tryd.pinned (OpenSpec.upto headCodesSpec)

/-- 'selionlaw06.HeadByte', WHERE WHAT IT READS IS OF BULK AT MOST 1048576: true; the input reads as it did. -/
def headByteUptoRow : OpenClaim := { program := "ytdhligapadblgaadoor", sum := "76c3aa93f34ed33dcef1389806b9a194da6ff7dfef1c938629654923bb442382", func := "selion/selionlaw06.HeadByte", spec := "headByte", inPlace := ["internal/reflectlite.TypeOf"], unfollowed := true, recurses := true, named := ["selion/head.errHead", "selion/head.parts", "selion/head.errNil", "selion/head.errAddr", "selion/arena.errNil", "selion/arena.errAddr", "selion/arena.errArg"], apart := false, laid := [("selion/arena.errNil", laid_selion_arena_errNil), ("selion/arena.errArg", laid_selion_arena_errArg), ("selion/arena.errAddr", laid_selion_arena_errAddr), ("selion/head.errNil", laid_selion_head_errNil), ("selion/head.errHead", laid_selion_head_errHead), ("selion/head.errAddr", laid_selion_head_errAddr), ("selion/head.parts", laid_selion_head_parts)], narrowed := true }
def HeadByteUptoSaid : Prop := headByteUptoRow.holds Tryd.pinned (OpenSpec.upto headByteSpec)

/-- 'selionlaw06.HeadTurns', WHERE WHAT IT READS IS OF BULK AT MOST 1048576: true; the input reads as it did. -/
def headTurnsUptoRow : OpenClaim := { program := "ytdhligapadblgaadoor", sum := "76c3aa93f34ed33dcef1389806b9a194da6ff7dfef1c938629654923bb442382", func := "selion/selionlaw06.HeadTurns", spec := "headTurns", inPlace := ["internal/reflectlite.TypeOf"], unfollowed := true, recurses := true, named := ["selion/head.errHead", "selion/head.parts", "selion/head.errNil", "selion/head.errAddr", "selion/arena.errNil", "selion/arena.errAddr", "selion/arena.errArg"], apart := false, laid := [("selion/arena.errNil", laid_selion_arena_errNil), ("selion/arena.errArg", laid_selion_arena_errArg), ("selion/arena.errAddr", laid_selion_arena_errAddr), ("selion/head.errNil", laid_selion_head_errNil), ("selion/head.errHead", laid_selion_head_errHead), ("selion/head.errAddr", laid_selion_head_errAddr), ("selion/head.parts", laid_selion_head_parts)], narrowed := true }
def HeadTurnsUptoSaid : Prop := headTurnsUptoRow.holds Tryd.pinned (OpenSpec.upto headTurnsSpec)

/-- 'selionlaw06.HeadApart', WHERE WHAT IT READS IS OF BULK AT MOST 1048576: true; the input reads as it did. -/
def headApartUptoRow : OpenClaim := { program := "ytdhligapadblgaadoor", sum := "76c3aa93f34ed33dcef1389806b9a194da6ff7dfef1c938629654923bb442382", func := "selion/selionlaw06.HeadApart", spec := "headApart", inPlace := ["internal/reflectlite.TypeOf"], unfollowed := true, recurses := true, named := ["selion/head.errHead", "selion/head.parts", "selion/head.errNil", "selion/head.errAddr", "selion/arena.errNil", "selion/arena.errAddr", "selion/arena.errArg"], apart := false, laid := [("selion/arena.errNil", laid_selion_arena_errNil), ("selion/arena.errArg", laid_selion_arena_errArg), ("selion/arena.errAddr", laid_selion_arena_errAddr), ("selion/head.errNil", laid_selion_head_errNil), ("selion/head.errHead", laid_selion_head_errHead), ("selion/head.errAddr", laid_selion_head_errAddr), ("selion/head.parts", laid_selion_head_parts)], narrowed := true }
def HeadApartUptoSaid : Prop := headApartUptoRow.holds Tryd.pinned (OpenSpec.upto headApartSpec)

/-- 'selionlaw06.HeadPuts', WHERE WHAT IT READS IS OF BULK AT MOST 1048576: true; the input reads as it did. -/
def headPutsUptoRow : OpenClaim := { program := "ytdhligapadblgaadoor", sum := "76c3aa93f34ed33dcef1389806b9a194da6ff7dfef1c938629654923bb442382", func := "selion/selionlaw06.HeadPuts", spec := "headPuts", inPlace := ["internal/reflectlite.TypeOf"], unfollowed := true, recurses := true, named := ["selion/head.errHead", "selion/head.parts", "selion/head.errNil", "selion/head.errAddr", "selion/arena.errNil", "selion/arena.errAddr", "selion/arena.errArg", "selion/addr.errAddr", "selion/addr.errSize", "selion/addr.errRef"], apart := false, laid := [("selion/addr.errAddr", laid_selion_addr_errAddr), ("selion/addr.errSize", laid_selion_addr_errSize), ("selion/addr.errRef", laid_selion_addr_errRef), ("selion/arena.errNil", laid_selion_arena_errNil), ("selion/arena.errArg", laid_selion_arena_errArg), ("selion/arena.errAddr", laid_selion_arena_errAddr), ("selion/head.errNil", laid_selion_head_errNil), ("selion/head.errHead", laid_selion_head_errHead), ("selion/head.errAddr", laid_selion_head_errAddr), ("selion/head.parts", laid_selion_head_parts)], narrowed := true }
def HeadPutsUptoSaid : Prop := headPutsUptoRow.holds Tryd.pinned (OpenSpec.upto headPutsSpec)

/-- 'selionlaw06.HeadBack', WHERE WHAT IT READS IS OF BULK AT MOST 1048576: true; the input reads as it did. -/
def headBackUptoRow : OpenClaim := { program := "ytdhligapadblgaadoor", sum := "76c3aa93f34ed33dcef1389806b9a194da6ff7dfef1c938629654923bb442382", func := "selion/selionlaw06.HeadBack", spec := "headBack", inPlace := ["internal/reflectlite.TypeOf"], unfollowed := true, recurses := true, named := ["selion/head.errHead", "selion/head.parts", "selion/head.errNil", "selion/head.errAddr", "selion/arena.errNil", "selion/arena.errAddr", "selion/arena.errArg", "selion/addr.errAddr", "selion/addr.errSize", "selion/addr.errRef"], apart := false, laid := [("selion/addr.errAddr", laid_selion_addr_errAddr), ("selion/addr.errSize", laid_selion_addr_errSize), ("selion/addr.errRef", laid_selion_addr_errRef), ("selion/arena.errNil", laid_selion_arena_errNil), ("selion/arena.errArg", laid_selion_arena_errArg), ("selion/arena.errAddr", laid_selion_arena_errAddr), ("selion/head.errNil", laid_selion_head_errNil), ("selion/head.errHead", laid_selion_head_errHead), ("selion/head.errAddr", laid_selion_head_errAddr), ("selion/head.parts", laid_selion_head_parts)], narrowed := true }
def HeadBackUptoSaid : Prop := headBackUptoRow.holds Tryd.pinned (OpenSpec.upto headBackSpec)

end Rows
end Go.Proofs.YtdhligapadblgaaDoor

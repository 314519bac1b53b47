/-
  NARROWER THAN 'FOR EVERY INPUT', by the rows' own cells (each row's printed sentence says how): BitsSets: laid · BitsWalks: laid · BitsTurns: laid · BitsSums: laid · BitsFills: laid · BitsBack: laid · BitsTells: laid · BitsEither: laid.
  DERIVED. THE GIVEN ROWS OF THIS SEAT. 8 by the template 'for every input the law returns true; each argument reads behind the call as it read before'; 0 by the template 'total and deterministic' (their statements: YtlncilcoohmlkaaDoorTotals.lean).
  GIVEN WITH THE SEED: the statements are not yours to turn. If you find one false, say at which input.
  Laid BY PROGRAM, IN A SANDBOX (cutbox-rows.mjs): the forced cells as the released guide's own fill.sh prints them over the translation c6324ad6d9ce678d… (all of the seat's roots in one cut). By AI agents, Wed Nov 11 2026. No macro, syntax, notation, axiom, sorry.
-/
import Derived.Test.YtlncilcoohmlkaaDoorChecked
import GoSem.Claim
import GoSem.ClaimJoined
import GoSem.ClaimMapViews
import Derived.JoinedTies
import Derived.KernelRfl
namespace Go.Proofs.YtlncilcoohmlkaaDoor
/- THE CELL 'sum', in the pinned program and in every row, IS THE sha256 OF THE DUMP (.gsa) THAT YtlncilcoohmlkaaDoorProg.lean LOADS. Nothing in Lean hashes anything: it is a label: what it is worth is what the hold of that sum in a sandbox is worth. -/
noncomputable def Tryd.pinned : Pinned := { name := "ytlncilcoohmlkaadoor", sum := "c6324ad6d9ce678d2ed914db813cf7b9f1914fc6785aa612227cbe3a2e28313e", checked := Tryd.checked }
namespace Rows
def none {H : Type} : Left H := { results := [], args := [] }

/- WHAT THE LISTED PACKAGE-LEVEL VARIABLES READ AS WHEN THE CALL BEGINS. Each datum BY PROGRAM (the guide's laid-datum.mjs) off the statement by which the dump's own 'gosem.cut.vars' lays the variable. In a bare row this is a premise. The card (YtlncilcoohmlkaaDoorCards.lean) ties it to the program's text. -/
def laid_selion_bits_errBits {H : Type} : DataW H := .iface "*errors.errorString" (.ptr (.agg [.lit (.string [110, 111, 32, 98, 105, 116, 115])]))
def laid_selion_bits_errPlace {H : Type} : DataW H := .iface "*errors.errorString" (.ptr (.agg [.lit (.string [110, 111, 32, 112, 108, 97, 99, 101])]))
def laid_selion_bits_errMany {H : Type} : DataW H := .iface "*errors.errorString" (.ptr (.agg [.lit (.string [116, 111, 111, 32, 109, 97, 110, 121])]))

/-- 'selionlaw02.BitsSets': WHATEVER THE INPUT: true; the input reads as it did. -/
def bitsSetsSpec : ChangeSpec := { name := "bitsSets", fn := fun _ => fun
  | [d1, d2, d3, d4] => { results := [.lit (.bool true)], args := [d1, d2, d3, d4] }
  | _ => none }
def bitsSetsRow : OpenClaim := { program := "ytlncilcoohmlkaadoor", sum := "c6324ad6d9ce678d2ed914db813cf7b9f1914fc6785aa612227cbe3a2e28313e", func := "selion/selionlaw02.BitsSets", spec := "bitsSets", inPlace := ["internal/reflectlite.TypeOf"], unfollowed := true, recurses := true, named := ["selion/bits.errMany", "selion/bits.errBits", "selion/bits.errPlace"], apart := false, laid := [("selion/bits.errBits", laid_selion_bits_errBits), ("selion/bits.errPlace", laid_selion_bits_errPlace), ("selion/bits.errMany", laid_selion_bits_errMany)] }
def BitsSetsSaid : Prop := bitsSetsRow.holds Tryd.pinned (OpenSpec.ofChange bitsSetsSpec)

/-- ITS FALSE NEIGHBOUR: 'it returns false'. Refute it at one input. -/
def bitsSetsWrong : ChangeSpec := { name := "bitsSets", fn := fun _ => fun
  | [d1, d2, d3, d4] => { results := [.lit (.bool false)], args := [d1, d2, d3, d4] }
  | _ => none }
def BitsSetsWrongFalsely : Prop := bitsSetsRow.holds Tryd.pinned (OpenSpec.ofChange bitsSetsWrong)

/-- 'selionlaw02.BitsWalks': WHATEVER THE INPUT: true; the input reads as it did. -/
def bitsWalksSpec : ChangeSpec := { name := "bitsWalks", fn := fun _ => fun
  | [d] => { results := [.lit (.bool true)], args := [d] }
  | _ => none }
def bitsWalksRow : OpenClaim := { program := "ytlncilcoohmlkaadoor", sum := "c6324ad6d9ce678d2ed914db813cf7b9f1914fc6785aa612227cbe3a2e28313e", func := "selion/selionlaw02.BitsWalks", spec := "bitsWalks", inPlace := ["internal/reflectlite.TypeOf"], unfollowed := true, recurses := true, named := ["selion/bits.errMany", "selion/bits.errBits", "selion/bits.errPlace"], apart := false, laid := [("selion/bits.errBits", laid_selion_bits_errBits), ("selion/bits.errPlace", laid_selion_bits_errPlace), ("selion/bits.errMany", laid_selion_bits_errMany)] }
def BitsWalksSaid : Prop := bitsWalksRow.holds Tryd.pinned (OpenSpec.ofChange bitsWalksSpec)

/-- ITS FALSE NEIGHBOUR: 'it returns false'. Refute it at one input. -/
def bitsWalksWrong : ChangeSpec := { name := "bitsWalks", fn := fun _ => fun
  | [d] => { results := [.lit (.bool false)], args := [d] }
  | _ => none }
def BitsWalksWrongFalsely : Prop := bitsWalksRow.holds Tryd.pinned (OpenSpec.ofChange bitsWalksWrong)

/-- 'selionlaw02.BitsTurns': WHATEVER THE INPUT: true; the input reads as it did. -/
def bitsTurnsSpec : ChangeSpec := { name := "bitsTurns", fn := fun _ => fun
  | [d1, d2, d3, d4, d5] => { results := [.lit (.bool true)], args := [d1, d2, d3, d4, d5] }
  | _ => none }
def bitsTurnsRow : OpenClaim := { program := "ytlncilcoohmlkaadoor", sum := "c6324ad6d9ce678d2ed914db813cf7b9f1914fc6785aa612227cbe3a2e28313e", func := "selion/selionlaw02.BitsTurns", spec := "bitsTurns", inPlace := ["internal/reflectlite.TypeOf"], unfollowed := true, recurses := true, named := ["selion/bits.errMany", "selion/bits.errBits", "selion/bits.errPlace"], apart := false, laid := [("selion/bits.errBits", laid_selion_bits_errBits), ("selion/bits.errPlace", laid_selion_bits_errPlace), ("selion/bits.errMany", laid_selion_bits_errMany)] }
def BitsTurnsSaid : Prop := bitsTurnsRow.holds Tryd.pinned (OpenSpec.ofChange bitsTurnsSpec)

/-- ITS FALSE NEIGHBOUR: 'it returns false'. Refute it at one input. -/
def bitsTurnsWrong : ChangeSpec := { name := "bitsTurns", fn := fun _ => fun
  | [d1, d2, d3, d4, d5] => { results := [.lit (.bool false)], args := [d1, d2, d3, d4, d5] }
  | _ => none }
def BitsTurnsWrongFalsely : Prop := bitsTurnsRow.holds Tryd.pinned (OpenSpec.ofChange bitsTurnsWrong)

/-- 'selionlaw02.BitsSums': WHATEVER THE INPUT: true; the input reads as it did. -/
def bitsSumsSpec : ChangeSpec := { name := "bitsSums", fn := fun _ => fun
  | [d1, d2] => { results := [.lit (.bool true)], args := [d1, d2] }
  | _ => none }
def bitsSumsRow : OpenClaim := { program := "ytlncilcoohmlkaadoor", sum := "c6324ad6d9ce678d2ed914db813cf7b9f1914fc6785aa612227cbe3a2e28313e", func := "selion/selionlaw02.BitsSums", spec := "bitsSums", inPlace := ["internal/reflectlite.TypeOf"], unfollowed := true, recurses := true, named := ["selion/bits.errMany", "selion/bits.errBits", "selion/bits.errPlace"], apart := false, laid := [("selion/bits.errBits", laid_selion_bits_errBits), ("selion/bits.errPlace", laid_selion_bits_errPlace), ("selion/bits.errMany", laid_selion_bits_errMany)] }
def BitsSumsSaid : Prop := bitsSumsRow.holds Tryd.pinned (OpenSpec.ofChange bitsSumsSpec)

/-- ITS FALSE NEIGHBOUR: 'it returns false'. Refute it at one input. -/
def bitsSumsWrong : ChangeSpec := { name := "bitsSums", fn := fun _ => fun
  | [d1, d2] => { results := [.lit (.bool false)], args := [d1, d2] }
  | _ => none }
def BitsSumsWrongFalsely : Prop := bitsSumsRow.holds Tryd.pinned (OpenSpec.ofChange bitsSumsWrong)

/-- 'selionlaw02.BitsFills': WHATEVER THE INPUT: true; the input reads as it did. -/
def bitsFillsSpec : ChangeSpec := { name := "bitsFills", fn := fun _ => fun
  | [d1, d2, d3] => { results := [.lit (.bool true)], args := [d1, d2, d3] }
  | _ => none }
def bitsFillsRow : OpenClaim := { program := "ytlncilcoohmlkaadoor", sum := "c6324ad6d9ce678d2ed914db813cf7b9f1914fc6785aa612227cbe3a2e28313e", func := "selion/selionlaw02.BitsFills", spec := "bitsFills", inPlace := ["internal/reflectlite.TypeOf"], unfollowed := true, recurses := true, named := ["selion/bits.errMany", "selion/bits.errBits", "selion/bits.errPlace"], apart := false, laid := [("selion/bits.errBits", laid_selion_bits_errBits), ("selion/bits.errPlace", laid_selion_bits_errPlace), ("selion/bits.errMany", laid_selion_bits_errMany)] }
def BitsFillsSaid : Prop := bitsFillsRow.holds Tryd.pinned (OpenSpec.ofChange bitsFillsSpec)

/-- ITS FALSE NEIGHBOUR: 'it returns false'. Refute it at one input. -/
def bitsFillsWrong : ChangeSpec := { name := "bitsFills", fn := fun _ => fun
  | [d1, d2, d3] => { results := [.lit (.bool false)], args := [d1, d2, d3] }
  | _ => none }
def BitsFillsWrongFalsely : Prop := bitsFillsRow.holds Tryd.pinned (OpenSpec.ofChange bitsFillsWrong)

/-- 'selionlaw02.BitsBack': WHATEVER THE INPUT: true; the input reads as it did. -/
def bitsBackSpec : ChangeSpec := { name := "bitsBack", fn := fun _ => fun
  | [d] => { results := [.lit (.bool true)], args := [d] }
  | _ => none }
def bitsBackRow : OpenClaim := { program := "ytlncilcoohmlkaadoor", sum := "c6324ad6d9ce678d2ed914db813cf7b9f1914fc6785aa612227cbe3a2e28313e", func := "selion/selionlaw02.BitsBack", spec := "bitsBack", inPlace := ["internal/reflectlite.TypeOf"], unfollowed := true, recurses := true, named := ["selion/bits.errMany", "selion/bits.errBits", "selion/bits.errPlace"], apart := false, laid := [("selion/bits.errBits", laid_selion_bits_errBits), ("selion/bits.errPlace", laid_selion_bits_errPlace), ("selion/bits.errMany", laid_selion_bits_errMany)] }
def BitsBackSaid : Prop := bitsBackRow.holds Tryd.pinned (OpenSpec.ofChange bitsBackSpec)

/-- ITS FALSE NEIGHBOUR: 'it returns false'. Refute it at one input. -/
def bitsBackWrong : ChangeSpec := { name := "bitsBack", fn := fun _ => fun
  | [d] => { results := [.lit (.bool false)], args := [d] }
  | _ => none }
def BitsBackWrongFalsely : Prop := bitsBackRow.holds Tryd.pinned (OpenSpec.ofChange bitsBackWrong)

/-- 'selionlaw02.BitsTells': WHATEVER THE INPUT: true; the input reads as it did. -/
def bitsTellsSpec : ChangeSpec := { name := "bitsTells", fn := fun _ => fun
  | [d1, d2, d3, d4] => { results := [.lit (.bool true)], args := [d1, d2, d3, d4] }
  | _ => none }
def bitsTellsRow : OpenClaim := { program := "ytlncilcoohmlkaadoor", sum := "c6324ad6d9ce678d2ed914db813cf7b9f1914fc6785aa612227cbe3a2e28313e", func := "selion/selionlaw02.BitsTells", spec := "bitsTells", inPlace := ["internal/reflectlite.TypeOf"], unfollowed := true, recurses := true, named := ["selion/bits.errMany", "selion/bits.errBits", "selion/bits.errPlace"], apart := false, laid := [("selion/bits.errBits", laid_selion_bits_errBits), ("selion/bits.errPlace", laid_selion_bits_errPlace), ("selion/bits.errMany", laid_selion_bits_errMany)] }
def BitsTellsSaid : Prop := bitsTellsRow.holds Tryd.pinned (OpenSpec.ofChange bitsTellsSpec)

/-- ITS FALSE NEIGHBOUR: 'it returns false'. Refute it at one input. -/
def bitsTellsWrong : ChangeSpec := { name := "bitsTells", fn := fun _ => fun
  | [d1, d2, d3, d4] => { results := [.lit (.bool false)], args := [d1, d2, d3, d4] }
  | _ => none }
def BitsTellsWrongFalsely : Prop := bitsTellsRow.holds Tryd.pinned (OpenSpec.ofChange bitsTellsWrong)

/-- 'selionlaw02.BitsEither': WHATEVER THE INPUT: true; the input reads as it did. -/
def bitsEitherSpec : ChangeSpec := { name := "bitsEither", fn := fun _ => fun
  | [d1, d2, d3] => { results := [.lit (.bool true)], args := [d1, d2, d3] }
  | _ => none }
def bitsEitherRow : OpenClaim := { program := "ytlncilcoohmlkaadoor", sum := "c6324ad6d9ce678d2ed914db813cf7b9f1914fc6785aa612227cbe3a2e28313e", func := "selion/selionlaw02.BitsEither", spec := "bitsEither", inPlace := ["internal/reflectlite.TypeOf"], unfollowed := true, recurses := true, named := ["selion/bits.errMany", "selion/bits.errBits", "selion/bits.errPlace"], apart := false, laid := [("selion/bits.errBits", laid_selion_bits_errBits), ("selion/bits.errPlace", laid_selion_bits_errPlace), ("selion/bits.errMany", laid_selion_bits_errMany)] }
def BitsEitherSaid : Prop := bitsEitherRow.holds Tryd.pinned (OpenSpec.ofChange bitsEitherSpec)

/-- ITS FALSE NEIGHBOUR: 'it returns false'. Refute it at one input. -/
def bitsEitherWrong : ChangeSpec := { name := "bitsEither", fn := fun _ => fun
  | [d1, d2, d3] => { results := [.lit (.bool false)], args := [d1, d2, d3] }
  | _ => none }
def BitsEitherWrongFalsely : Prop := bitsEitherRow.holds Tryd.pinned (OpenSpec.ofChange bitsEitherWrong)

/- THE SECOND FORM. 'bulk': how many values and letters a reading holds, each counted each time it is reached (what is shared counts as often as it is met; a slice's spare places count too). A statement '..UptoSaid' is the law's where the arguments, and the package variables that the reading takes, are together of bulk at most 1048576: NARROWER than '..Said'. Prove '..Said' where nothing that the law and all that it calls make is longer than what came in: it says more and counts as full. Else prove '..UptoSaid'. A law counts once. -/
mutual
def uptoBulk {H : Type} : DataW H → Nat
  | .lit (.string bytes) => bytes.length + 1
  | .lit _ => 1
  | .nil => 1
  | .ptr d => uptoBulk d + 1
  | .slice elems spare => uptoBulkAll elems + uptoBulkAll spare + 1
  | .agg parts => uptoBulkAll parts + 1
  | .iface _ d => uptoBulk d + 1
  | .map entries => uptoBulkEntries entries + 1
  | .held _ => 1
def uptoBulkAll {H : Type} : List (DataW H) → Nat
  | [] => 0
  | d :: r => uptoBulk d + uptoBulkAll r
def uptoBulkEntries {H : Type} : List (Lit × DataW H) → Nat
  | [] => 0
  | x :: r => uptoBulkEntry x + uptoBulkEntries r
def uptoBulkEntry {H : Type} : Lit × DataW H → Nat
  | (.string bytes, d) => bytes.length + uptoBulk d + 1
  | (_, d) => uptoBulk d + 1
 end
def uptoSmall : (H : Type) → List (DataW H) → Bool := fun _ ds => decide (uptoBulkAll ds ≤ 1048576)
def OpenSpec.upto (s : _root_.Go.ChangeSpec) : _root_.Go.OpenSpec := { _root_.Go.OpenSpec.ofChange s with cond := some uptoSmall }

/-- 'selionlaw02.BitsSets', WHERE WHAT IT READS IS OF BULK AT MOST 1048576: true; the input reads as it did. -/
def bitsSetsUptoRow : OpenClaim := { program := "ytlncilcoohmlkaadoor", sum := "c6324ad6d9ce678d2ed914db813cf7b9f1914fc6785aa612227cbe3a2e28313e", func := "selion/selionlaw02.BitsSets", spec := "bitsSets", inPlace := ["internal/reflectlite.TypeOf"], unfollowed := true, recurses := true, named := ["selion/bits.errMany", "selion/bits.errBits", "selion/bits.errPlace"], apart := false, laid := [("selion/bits.errBits", laid_selion_bits_errBits), ("selion/bits.errPlace", laid_selion_bits_errPlace), ("selion/bits.errMany", laid_selion_bits_errMany)], narrowed := true }
def BitsSetsUptoSaid : Prop := bitsSetsUptoRow.holds Tryd.pinned (OpenSpec.upto bitsSetsSpec)

/-- 'selionlaw02.BitsWalks', WHERE WHAT IT READS IS OF BULK AT MOST 1048576: true; the input reads as it did. -/
def bitsWalksUptoRow : OpenClaim := { program := "ytlncilcoohmlkaadoor", sum := "c6324ad6d9ce678d2ed914db813cf7b9f1914fc6785aa612227cbe3a2e28313e", func := "selion/selionlaw02.BitsWalks", spec := "bitsWalks", inPlace := ["internal/reflectlite.TypeOf"], unfollowed := true, recurses := true, named := ["selion/bits.errMany", "selion/bits.errBits", "selion/bits.errPlace"], apart := false, laid := [("selion/bits.errBits", laid_selion_bits_errBits), ("selion/bits.errPlace", laid_selion_bits_errPlace), ("selion/bits.errMany", laid_selion_bits_errMany)], narrowed := true }
def BitsWalksUptoSaid : Prop := bitsWalksUptoRow.holds Tryd.pinned (OpenSpec.upto bitsWalksSpec)

/-- 'selionlaw02.BitsTurns', WHERE WHAT IT READS IS OF BULK AT MOST 1048576: true; the input reads as it did. -/
def bitsTurnsUptoRow : OpenClaim := { program := "ytlncilcoohmlkaadoor", sum := "c6324ad6d9ce678d2ed914db813cf7b9f1914fc6785aa612227cbe3a2e28313e", func := "selion/selionlaw02.BitsTurns", spec := "bitsTurns", inPlace := ["internal/reflectlite.TypeOf"], unfollowed := true, recurses := true, named := ["selion/bits.errMany", "selion/bits.errBits", "selion/bits.errPlace"], apart := false, laid := [("selion/bits.errBits", laid_selion_bits_errBits), ("selion/bits.errPlace", laid_selion_bits_errPlace), ("selion/bits.errMany", laid_selion_bits_errMany)], narrowed := true }
def BitsTurnsUptoSaid : Prop := bitsTurnsUptoRow.holds Tryd.pinned (OpenSpec.upto bitsTurnsSpec)

/-- 'selionlaw02.BitsSums', WHERE WHAT IT READS IS OF BULK AT MOST 1048576: true; the input reads as it did. -/
def bitsSumsUptoRow : OpenClaim := { program := "ytlncilcoohmlkaadoor", sum := "c6324ad6d9ce678d2ed914db813cf7b9f1914fc6785aa612227cbe3a2e28313e", func := "selion/selionlaw02.BitsSums", spec := "bitsSums", inPlace := ["internal/reflectlite.TypeOf"], unfollowed := true, recurses := true, named := ["selion/bits.errMany", "selion/bits.errBits", "selion/bits.errPlace"], apart := false, laid := [("selion/bits.errBits", laid_selion_bits_errBits), ("selion/bits.errPlace", laid_selion_bits_errPlace), ("selion/bits.errMany", laid_selion_bits_errMany)], narrowed := true }
def BitsSumsUptoSaid : Prop := bitsSumsUptoRow.holds Tryd.pinned (OpenSpec.upto bitsSumsSpec)

/-- 'selionlaw02.BitsFills', WHERE WHAT IT READS IS OF BULK AT MOST 1048576: true; the input reads as it did. -/
def bitsFillsUptoRow : OpenClaim := { program := "ytlncilcoohmlkaadoor", sum := "c6324ad6d9ce678d2ed914db813cf7b9f1914fc6785aa612227cbe3a2e28313e", func := "selion/selionlaw02.BitsFills", spec := "bitsFills", inPlace := ["internal/reflectlite.TypeOf"], unfollowed := true, recurses := true, named := ["selion/bits.errMany", "selion/bits.errBits", "selion/bits.errPlace"], apart := false, laid := [("selion/bits.errBits", laid_selion_bits_errBits), ("selion/bits.errPlace", laid_selion_bits_errPlace), ("selion/bits.errMany", laid_selion_bits_errMany)], narrowed := true }
def BitsFillsUptoSaid : Prop := bitsFillsUptoRow.holds Tryd.pinned (OpenSpec.upto bitsFillsSpec)

/-- 'selionlaw02.BitsBack', WHERE WHAT IT READS IS OF BULK AT MOST 1048576: true; the input reads as it did. -/
def bitsBackUptoRow : OpenClaim := { program := "ytlncilcoohmlkaadoor", sum := "c6324ad6d9ce678d2ed914db813cf7b9f1914fc6785aa612227cbe3a2e28313e", func := "selion/selionlaw02.BitsBack", spec := "bitsBack", inPlace := ["internal/reflectlite.TypeOf"], unfollowed := true, recurses := true, named := ["selion/bits.errMany", "selion/bits.errBits", "selion/bits.errPlace"], apart := false, laid := [("selion/bits.errBits", laid_selion_bits_errBits), ("selion/bits.errPlace", laid_selion_bits_errPlace), ("selion/bits.errMany", laid_selion_bits_errMany)], narrowed := true }
def BitsBackUptoSaid : Prop := bitsBackUptoRow.holds Tryd.pinned (OpenSpec.upto bitsBackSpec)

/-- 'selionlaw02.BitsTells', WHERE WHAT IT READS IS OF BULK AT MOST 1048576: true; the input reads as it did. -/
def bitsTellsUptoRow : OpenClaim := { program := "ytlncilcoohmlkaadoor", sum := "c6324ad6d9ce678d2ed914db813cf7b9f1914fc6785aa612227cbe3a2e28313e", func := "selion/selionlaw02.BitsTells", spec := "bitsTells", inPlace := ["internal/reflectlite.TypeOf"], unfollowed := true, recurses := true, named := ["selion/bits.errMany", "selion/bits.errBits", "selion/bits.errPlace"], apart := false, laid := [("selion/bits.errBits", laid_selion_bits_errBits), ("selion/bits.errPlace", laid_selion_bits_errPlace), ("selion/bits.errMany", laid_selion_bits_errMany)], narrowed := true }
def BitsTellsUptoSaid : Prop := bitsTellsUptoRow.holds Tryd.pinned (OpenSpec.upto bitsTellsSpec)

/-- 'selionlaw02.BitsEither', WHERE WHAT IT READS IS OF BULK AT MOST 1048576: true; the input reads as it did. -/
def bitsEitherUptoRow : OpenClaim := { program := "ytlncilcoohmlkaadoor", sum := "c6324ad6d9ce678d2ed914db813cf7b9f1914fc6785aa612227cbe3a2e28313e", func := "selion/selionlaw02.BitsEither", spec := "bitsEither", inPlace := ["internal/reflectlite.TypeOf"], unfollowed := true, recurses := true, named := ["selion/bits.errMany", "selion/bits.errBits", "selion/bits.errPlace"], apart := false, laid := [("selion/bits.errBits", laid_selion_bits_errBits), ("selion/bits.errPlace", laid_selion_bits_errPlace), ("selion/bits.errMany", laid_selion_bits_errMany)], narrowed := true }
def BitsEitherUptoSaid : Prop := bitsEitherUptoRow.holds Tryd.pinned (OpenSpec.upto bitsEitherSpec)

end Rows
end Go.Proofs.YtlncilcoohmlkaaDoor

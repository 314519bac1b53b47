/-
  No cell of these rows narrows 'for every input' (looked for: loops, veiled, ifaces, maps, wideKeys, modest, calm, conditions, laid).
  DERIVED. THE GIVEN ROWS OF THIS SEAT. 5 by the template 'for every input the law returns true; each argument reads behind the call as it read before'; 0 by the template 'total and deterministic' (their statements: YtmgllljilnkkcaaTotals.lean).
  GIVEN WITH THE SEED: the statements are not yours to turn. If you find one false, say at which input.
  Laid BY PROGRAM, IN A SANDBOX (cutbox-rows.mjs): the forced cells as the released guide's own fill.sh prints them over the translation f5666ef40958b39e… (all of the seat's roots in one cut). By AI agents, Wed Nov 11 2026. No macro, syntax, notation, axiom, sorry.
-/
import Derived.Test.YtmgllljilnkkcaaChecked
import GoSem.Claim
import GoSem.ClaimJoined
import GoSem.ClaimMapViews
import Derived.JoinedTies
import Derived.KernelRfl
namespace Go.Proofs.Ytmgllljilnkkcaa
/- THE CELL 'sum', in the pinned program and in every row, IS THE sha256 OF THE DUMP (.gsa) THAT YtmgllljilnkkcaaProg.lean LOADS. Nothing in Lean hashes anything: it is a label: what it is worth is what the hold of that sum in a sandbox is worth. -/
noncomputable def Try.pinned : Pinned := { name := "ytmgllljilnkkcaa", sum := "f5666ef40958b39ea9ab9aa2c66536354d8a08990774f918cc5eb709b9719ad0", checked := Try.checked }
namespace Rows
def none {H : Type} : Left H := { results := [], args := [] }

/-- 'selionlaw08.HoleTells': WHATEVER THE INPUT: true; the input reads as it did. -/
def holeTellsSpec : ChangeSpec := { name := "holeTells", fn := fun _ => fun
  | [d1, d2, d3] => { results := [.lit (.bool true)], args := [d1, d2, d3] }
  | _ => none }
def holeTellsRow : OpenClaim := { program := "ytmgllljilnkkcaa", sum := "f5666ef40958b39ea9ab9aa2c66536354d8a08990774f918cc5eb709b9719ad0", func := "selion/selionlaw08.HoleTells", spec := "holeTells", unfollowed := true, recurses := true, apart := false }
def HoleTellsSaid : Prop := holeTellsRow.holds Try.pinned (OpenSpec.ofChange holeTellsSpec)

/-- ITS FALSE NEIGHBOUR: 'it returns false'. Refute it at one input. -/
def holeTellsWrong : ChangeSpec := { name := "holeTells", fn := fun _ => fun
  | [d1, d2, d3] => { results := [.lit (.bool false)], args := [d1, d2, d3] }
  | _ => none }
def HoleTellsWrongFalsely : Prop := holeTellsRow.holds Try.pinned (OpenSpec.ofChange holeTellsWrong)

/-- 'selionlaw08.HoleWalks': WHATEVER THE INPUT: true; the input reads as it did. -/
def holeWalksSpec : ChangeSpec := { name := "holeWalks", fn := fun _ => fun
  | [d] => { results := [.lit (.bool true)], args := [d] }
  | _ => none }
def holeWalksRow : OpenClaim := { program := "ytmgllljilnkkcaa", sum := "f5666ef40958b39ea9ab9aa2c66536354d8a08990774f918cc5eb709b9719ad0", func := "selion/selionlaw08.HoleWalks", spec := "holeWalks", unfollowed := true, recurses := true, apart := false }
def HoleWalksSaid : Prop := holeWalksRow.holds Try.pinned (OpenSpec.ofChange holeWalksSpec)

/-- ITS FALSE NEIGHBOUR: 'it returns false'. Refute it at one input. -/
def holeWalksWrong : ChangeSpec := { name := "holeWalks", fn := fun _ => fun
  | [d] => { results := [.lit (.bool false)], args := [d] }
  | _ => none }
def HoleWalksWrongFalsely : Prop := holeWalksRow.holds Try.pinned (OpenSpec.ofChange holeWalksWrong)

/-- 'selionlaw08.HoleSums': WHATEVER THE INPUT: true; the input reads as it did. -/
def holeSumsSpec : ChangeSpec := { name := "holeSums", fn := fun _ => fun
  | [d] => { results := [.lit (.bool true)], args := [d] }
  | _ => none }
def holeSumsRow : OpenClaim := { program := "ytmgllljilnkkcaa", sum := "f5666ef40958b39ea9ab9aa2c66536354d8a08990774f918cc5eb709b9719ad0", func := "selion/selionlaw08.HoleSums", spec := "holeSums", unfollowed := true, recurses := true, apart := false }
def HoleSumsSaid : Prop := holeSumsRow.holds Try.pinned (OpenSpec.ofChange holeSumsSpec)

/-- ITS FALSE NEIGHBOUR: 'it returns false'. Refute it at one input. -/
def holeSumsWrong : ChangeSpec := { name := "holeSums", fn := fun _ => fun
  | [d] => { results := [.lit (.bool false)], args := [d] }
  | _ => none }
def HoleSumsWrongFalsely : Prop := holeSumsRow.holds Try.pinned (OpenSpec.ofChange holeSumsWrong)

/-- 'selionlaw08.HoleLines': WHATEVER THE INPUT: true; the input reads as it did. -/
def holeLinesSpec : ChangeSpec := { name := "holeLines", fn := fun _ => fun
  | [d1, d2] => { results := [.lit (.bool true)], args := [d1, d2] }
  | _ => none }
def holeLinesRow : OpenClaim := { program := "ytmgllljilnkkcaa", sum := "f5666ef40958b39ea9ab9aa2c66536354d8a08990774f918cc5eb709b9719ad0", func := "selion/selionlaw08.HoleLines", spec := "holeLines", unfollowed := true, recurses := true, apart := false }
def HoleLinesSaid : Prop := holeLinesRow.holds Try.pinned (OpenSpec.ofChange holeLinesSpec)

/-- ITS FALSE NEIGHBOUR: 'it returns false'. Refute it at one input. -/
def holeLinesWrong : ChangeSpec := { name := "holeLines", fn := fun _ => fun
  | [d1, d2] => { results := [.lit (.bool false)], args := [d1, d2] }
  | _ => none }
def HoleLinesWrongFalsely : Prop := holeLinesRow.holds Try.pinned (OpenSpec.ofChange holeLinesWrong)

/-- 'selionlaw08.HoleFirst': WHATEVER THE INPUT: true; the input reads as it did. -/
def holeFirstSpec : ChangeSpec := { name := "holeFirst", fn := fun _ => fun
  | [d1, d2] => { results := [.lit (.bool true)], args := [d1, d2] }
  | _ => none }
def holeFirstRow : OpenClaim := { program := "ytmgllljilnkkcaa", sum := "f5666ef40958b39ea9ab9aa2c66536354d8a08990774f918cc5eb709b9719ad0", func := "selion/selionlaw08.HoleFirst", spec := "holeFirst", unfollowed := true, recurses := true, apart := false }
def HoleFirstSaid : Prop := holeFirstRow.holds Try.pinned (OpenSpec.ofChange holeFirstSpec)

/-- ITS FALSE NEIGHBOUR: 'it returns false'. Refute it at one input. -/
def holeFirstWrong : ChangeSpec := { name := "holeFirst", fn := fun _ => fun
  | [d1, d2] => { results := [.lit (.bool false)], args := [d1, d2] }
  | _ => none }
def HoleFirstWrongFalsely : Prop := holeFirstRow.holds Try.pinned (OpenSpec.ofChange holeFirstWrong)

/- THE SECOND FORM. 'bulk': how many values and letters a reading holds, each counted each time it is reached (what is shared counts as often as it is met; a slice's spare places count too). A statement '..UptoSaid' is the law's where the arguments, and the package variables that the reading takes, are together of bulk at most 1048576: NARROWER than '..Said'. Prove '..Said' where nothing that the law and all that it calls make is longer than what came in: it says more and counts as full. Else prove '..UptoSaid'. A law counts once. -/
mutual
def uptoBulk {H : Type} : DataW H → Nat
  | .lit (.string bytes) => bytes.length + 1
  | .lit _ => 1
  | .nil => 1
  | .ptr d => uptoBulk d + 1
  | .slice elems spare => uptoBulkAll elems + uptoBulkAll spare + 1
  | .agg parts => uptoBulkAll parts + 1
  | .iface _ d => uptoBulk d + 1
  | .map entries => uptoBulkEntries entries + 1
  | .held _ => 1
def uptoBulkAll {H : Type} : List (DataW H) → Nat
  | [] => 0
  | d :: r => uptoBulk d + uptoBulkAll r
def uptoBulkEntries {H : Type} : List (Lit × DataW H) → Nat
  | [] => 0
  | x :: r => uptoBulkEntry x + uptoBulkEntries r
def uptoBulkEntry {H : Type} : Lit × DataW H → Nat
  | (.string bytes, d) => bytes.length + uptoBulk d + 1
  | (_, d) => uptoBulk d + 1
 end
def uptoSmall : (H : Type) → List (DataW H) → Bool := fun _ ds => decide (uptoBulkAll ds ≤ 1048576)
def OpenSpec.upto (s : _root_.Go.ChangeSpec) : _root_.Go.OpenSpec := { _root_.Go.OpenSpec.ofChange s with cond := some uptoSmall }

/-- 'selionlaw08.HoleTells', WHERE WHAT IT READS IS OF BULK AT MOST 1048576: true; the input reads as it did. -/
def holeTellsUptoRow : OpenClaim := { program := "ytmgllljilnkkcaa", sum := "f5666ef40958b39ea9ab9aa2c66536354d8a08990774f918cc5eb709b9719ad0", func := "selion/selionlaw08.HoleTells", spec := "holeTells", unfollowed := true, recurses := true, apart := false, narrowed := true }
def HoleTellsUptoSaid : Prop := holeTellsUptoRow.holds Try.pinned (OpenSpec.upto holeTellsSpec)

/-- 'selionlaw08.HoleWalks', WHERE WHAT IT READS IS OF BULK AT MOST 1048576: true; the input reads as it did. -/
def holeWalksUptoRow : OpenClaim := { program := "ytmgllljilnkkcaa", sum := "f5666ef40958b39ea9ab9aa2c66536354d8a08990774f918cc5eb709b9719ad0", func := "selion/selionlaw08.HoleWalks", spec := "holeWalks", unfollowed := true, recurses := true, apart := false, narrowed := true }
def HoleWalksUptoSaid : Prop := holeWalksUptoRow.holds Try.pinned (OpenSpec.upto holeWalksSpec)

/-- 'selionlaw08.HoleSums', WHERE WHAT IT READS IS OF BULK AT MOST 1048576: true; the input reads as it did. -/
def holeSumsUptoRow : OpenClaim := { program := "ytmgllljilnkkcaa", sum := "f5666ef40958b39ea9ab9aa2c66536354d8a08990774f918cc5eb709b9719ad0", func := "selion/selionlaw08.HoleSums", spec := "holeSums", unfollowed := true, recurses := true, apart := false, narrowed := true }
def HoleSumsUptoSaid : Prop := holeSumsUptoRow.holds Try.pinned (OpenSpec.upto holeSumsSpec)

/-- 'selionlaw08.HoleLines', WHERE WHAT IT READS IS OF BULK AT MOST 1048576: true; the input reads as it did. -/
def holeLinesUptoRow : OpenClaim := { program := "ytmgllljilnkkcaa", sum := "f5666ef40958b39ea9ab9aa2c66536354d8a08990774f918cc5eb709b9719ad0", func := "selion/selionlaw08.HoleLines", spec := "holeLines", unfollowed := true, recurses := true, apart := false, narrowed := true }
def HoleLinesUptoSaid : Prop := holeLinesUptoRow.holds Try.pinned (OpenSpec.upto holeLinesSpec)

/-- 'selionlaw08.HoleFirst', WHERE WHAT IT READS IS OF BULK AT MOST 1048576: true; the input reads as it did. -/
def holeFirstUptoRow : OpenClaim := { program := "ytmgllljilnkkcaa", sum := "f5666ef40958b39ea9ab9aa2c66536354d8a08990774f918cc5eb709b9719ad0", func := "selion/selionlaw08.HoleFirst", spec := "holeFirst", unfollowed := true, recurses := true, apart := false, narrowed := true }
def HoleFirstUptoSaid : Prop := holeFirstUptoRow.holds Try.pinned (OpenSpec.upto holeFirstSpec)

end Rows
end Go.Proofs.Ytmgllljilnkkcaa

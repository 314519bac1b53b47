/- Layer head: a text that came in. -/
import Derived.Test.YtdhligapadblgaaDoorK11
import Derived.Test.YtdhligapadblgaaDoorG6b
import Derived.ChangeMaps5
namespace Go.Proofs.YtdhligapadblgaaDoor
open Go.ChangeShapes Go.WideShapes Go.ChangeAt Go.RowKit

set_option maxRecDepth 100000 in
set_option linter.constructorNameAsVariable false in
theorem string_open {H : Type} {enc : TypeId × Value → H} {W : World} {base : Nat} {v : Value} {d : DataW H} {ps : List MemPlace} (hok : Value.okWide Tryd.prog W .any base 9 v)
    (h : DataW.Trod enc Tryd.prog W 0 (fun _ => true) true 9 v d ps) : ∃ s : ByteArray, v = .string s := by
  obtain ⟨s, rfl, _⟩ := Go.ChangeMaps.open_string Tryd.underlying9 hok h
  exact ⟨s, rfl⟩
end Go.Proofs.YtdhligapadblgaaDoor

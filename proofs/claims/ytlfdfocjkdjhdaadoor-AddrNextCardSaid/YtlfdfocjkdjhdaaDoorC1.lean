/- Layer addr: what the statements' examples come to. -/
import Derived.Test.YtlfdfocjkdjhdaaDoorB1
import Derived.Test.YtlfdfocjkdjhdaaDoorA4
namespace Go.Proofs.YtlfdfocjkdjhdaaDoor
open Go.RowKit

set_option maxRecDepth 100000 in
set_option maxHeartbeats 1000000 in
theorem shown_any {E : Env} {w : World} (hGl : Glob E w) : Calls Tryd.prog 11 #[] w fun r w' => r = .returned (.bool true) ∧ Below w.heap.size w w' := by
  have hb : Below w.heap.size w w := Below.refl _ _
  go_enter Tryd.func11, Tryd.ntmps11
  go_wp2_with fail
  refine (split_yes hGl 8580 (by decide) (by decide)).mono ?_
  rintro e1 w1 ⟨rfl, hb1⟩
  replace hb := hb.trans (hb1.mono hb.size)
  replace hGl := hGl.below hb1
  clear hb1
  go_wp2_with fail
  refine (join_yes hGl 2 3 4 (by decide)).mono ?_
  rintro e2 w2 ⟨rfl, hb2⟩
  replace hb := hb.trans (hb2.mono hb.size)
  replace hGl := hGl.below hb2
  clear hb2
  go_wp2_with fail
  refine (class_yes hGl 129 (by decide) (by decide)).mono ?_
  rintro e3 w3 ⟨rfl, hb3⟩
  replace hb := hb.trans (hb3.mono hb.size)
  replace hGl := hGl.below hb3
  clear hb3
  go_wp2_with fail
  refine (ref_no hGl 4 (by decide)).mono ?_
  rintro e4 w4 ⟨rfl, hb4⟩
  replace hb := hb.trans (hb4.mono hb.size)
  replace hGl := hGl.below hb4
  clear hb4
  go_wp2_with fail
  refine (round_no hGl 0 (by decide)).mono ?_
  rintro e5 w5 ⟨rfl, hb5⟩
  replace hb := hb.trans (hb5.mono hb.size)
  replace hGl := hGl.below hb5
  clear hb5
  go_wp2
  go_ret
  exact ⟨rfl, hb⟩
end Go.Proofs.YtlfdfocjkdjhdaaDoor

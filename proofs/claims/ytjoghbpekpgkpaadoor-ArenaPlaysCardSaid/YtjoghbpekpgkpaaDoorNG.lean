/- Layer arena: from what the row lists to what the contracts ask. -/
import Derived.Test.YtjoghbpekpgkpaaDoorN1
import Derived.Test.YtjoghbpekpgkpaaDoorLd
import Derived.Test.YtjoghbpekpgkpaaDoorRows
import Derived.ProofKit
import Derived.SizedLaws
import Derived.Lib.RowBridge
import Derived.Lib.SmallJoins
import Derived.LaidMore
import Derived.Stop.Joined
import Derived.Stop.LaidTwo
import Derived.OpenShut
namespace Go.Proofs.YtjoghbpekpgkpaaDoor
open Go.ChangeShapes Go.WideShapes Go.ChangeAt Go.RowKit

theorem own : ownKnob Tryd.prog.godebug = none := by kernel_rfl
theorem laidOut : laidOutB Tryd.prog = true := by kernel_rfl
theorem gnN : Tryd.prog.globalNamed "selion/arena.errNil" = some 2 := by kernel_rfl
theorem gnG : Tryd.prog.globalNamed "selion/arena.errArg" = some 0 := by kernel_rfl
theorem gnD : Tryd.prog.globalNamed "selion/arena.errAddr" = some 3 := by kernel_rfl
theorem gnA : Tryd.prog.globalNamed "selion/addr.errAddr" = some 1 := by kernel_rfl
theorem gtN : (Tryd.prog.globals[2]?).map (·.type) = some 64 := by kernel_rfl
theorem gtG : (Tryd.prog.globals[0]?).map (·.type) = some 64 := by kernel_rfl
theorem gtD : (Tryd.prog.globals[3]?).map (·.type) = some 64 := by kernel_rfl
theorem gtA : (Tryd.prog.globals[1]?).map (·.type) = some 64 := by kernel_rfl
theorem esCells : Tryd.prog.cellsOf 120 = 1 := by kernel_rfl
theorem strCells : Tryd.prog.cellsOf 9 = 1 := by kernel_rfl
theorem star : ("*errors.errorString" : String) = "*" ++ "errors.errorString" := by decide +kernel
theorem pesRow (u : TypeId) (h : Tryd.prog.typeName? 3 u = some "*errors.errorString") : u = 96 :=
  typeName_ptr_named (nm := "errors.errorString") (by rw [← star]; kernel_rfl) (by kernel_rfl) (by decide) u (by rw [← star]; exact h)

/-- What the rows of this layer list. -/
def laidL : List (String × DataW Unit) := [("selion/addr.errAddr", Rows.laid_selion_addr_errAddr), ("selion/addr.errSize", Rows.laid_selion_addr_errSize), ("selion/addr.errRef", Rows.laid_selion_addr_errRef), ("selion/arena.errNil", Rows.laid_selion_arena_errNil), ("selion/arena.errArg", Rows.laid_selion_arena_errArg), ("selion/arena.errAddr", Rows.laid_selion_arena_errAddr)]

set_option maxRecDepth 20000 in
theorem glob_of_laid {W : World} (h : laidMetH Tryd.prog laidL W) : ∃ E, GlobN E W := by
  have h0 : laidMet Tryd.prog laidL W := h
  have hu := Tryd.underlying64
  obtain ⟨aA, sA⟩ := sent_one h0 gnA gtA hu pesRow Tryd.underlying96 Tryd.underlying120 rfl rfl Tryd.underlying9 esCells strCells
  have s1 : [("selion/arena.errNil", Rows.laid_selion_arena_errNil (H := Unit)), ("selion/arena.errArg", Rows.laid_selion_arena_errArg), ("selion/arena.errAddr", Rows.laid_selion_arena_errAddr)].Sublist laidL := by
    unfold laidL; exact .cons _ (.cons _ (.cons _ (List.Sublist.refl _)))
  have h1 := laidMet_sublist h0 s1
  clear h0 h
  obtain ⟨aN, sN⟩ := sent_one h1 gnN gtN hu pesRow Tryd.underlying96 Tryd.underlying120 rfl rfl Tryd.underlying9 esCells strCells
  obtain ⟨aG, sG⟩ := sent_one (laidMet_sublist h1 (.cons _ (List.Sublist.refl _))) gnG gtG hu pesRow Tryd.underlying96 Tryd.underlying120 rfl rfl Tryd.underlying9 esCells strCells
  obtain ⟨aD, sD⟩ := sent_one (laidMet_sublist h1 (.cons _ (.cons _ (List.Sublist.refl _)))) gnD gtD hu pesRow Tryd.underlying96 Tryd.underlying120 rfl rfl Tryd.underlying9 esCells strCells
  have n1 := sent_ne h1 gnN gtN gnG gtG hu pesRow Tryd.underlying96 Tryd.underlying120 rfl rfl Tryd.underlying9 esCells strCells sN sG
  have n2 := sent_ne (laidMet_sublist h1 (.cons_cons _ (.cons _ (List.Sublist.refl _)))) gnN gtN gnD gtD hu pesRow Tryd.underlying96 Tryd.underlying120 rfl rfl Tryd.underlying9 esCells strCells sN sD
  have n3 := sent_ne (laidMet_sublist h1 (.cons _ (List.Sublist.refl _))) gnG gtG gnD gtD hu pesRow Tryd.underlying96 Tryd.underlying120 rfl rfl Tryd.underlying9 esCells strCells sG sD
  exact ⟨⟨aN, aG, aD, aA⟩, sN.cell, sG.cell, sD.cell, sA.cell, sN.block, sG.block, sD.block, n1, n2, n3⟩

/-- The heap that the initialisers leave meets the condition. -/
theorem door_met (os : Os) (args : Array Value) : laidMetH Tryd.prog laidL ((World.doorLaid Tryd.prog 123 os).forCall (fun _ _ => 0) ⟨#[], args, []⟩).memory :=
  laidMetH_of_parts3 (fuel := 8) (laidMet_of_run' 8 (by kernel_rfl) (by kernel_rfl)) (by kernel_rfl) (by kernel_rfl)

theorem wf_i64 {n : Int} (h : (Lit.int .i64 n).wf = true) : -9223372036854775808 ≤ n ∧ n ≤ 9223372036854775807 := by
  have h1 : IntKind.i64.min = -9223372036854775808 := by decide
  have h2 : IntKind.i64.max = 9223372036854775807 := by decide
  simp only [Lit.wf, h1, h2, decide_eq_true_eq, Bool.and_eq_true] at h
  exact h
end Go.Proofs.YtjoghbpekpgkpaaDoor

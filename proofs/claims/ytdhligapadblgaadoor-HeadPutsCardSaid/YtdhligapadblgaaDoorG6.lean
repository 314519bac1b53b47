/- Layer head: from what the row lists to what the contracts ask. -/
import Derived.Test.YtdhligapadblgaaDoorK6
import Derived.Test.YtdhligapadblgaaDoorLd
import Derived.Test.YtdhligapadblgaaDoorRows
import Derived.ProofKit
import Derived.SizedLaws
import Derived.Lib.RowBridge
import Derived.Lib.SmallJoins
import Derived.LaidMore
import Derived.Deep.Strs
import Derived.Stop.Joined
import Derived.Stop.LaidTwo
import Derived.OpenShut
namespace Go.Proofs.YtdhligapadblgaaDoor
open Go.ChangeShapes Go.WideShapes Go.ChangeAt Go.RowKit

theorem own : ownKnob Tryd.prog.godebug = none := by kernel_rfl
theorem laidOut : laidOutB Tryd.prog = true := by kernel_rfl
theorem gnN : Tryd.prog.globalNamed "selion/head.errNil" = some 3 := by kernel_rfl
theorem gnH : Tryd.prog.globalNamed "selion/head.errHead" = some 0 := by kernel_rfl
theorem gnA : Tryd.prog.globalNamed "selion/head.errAddr" = some 4 := by kernel_rfl
theorem gnP : Tryd.prog.globalNamed "selion/head.parts" = some 1 := by kernel_rfl
theorem gtN : (Tryd.prog.globals[3]?).map (·.type) = some 57 := by kernel_rfl
theorem gtH : (Tryd.prog.globals[0]?).map (·.type) = some 57 := by kernel_rfl
theorem gtA : (Tryd.prog.globals[4]?).map (·.type) = some 57 := by kernel_rfl
theorem gtP : (Tryd.prog.globals[1]?).map (·.type) = some 70 := by kernel_rfl
theorem esCells : Tryd.prog.cellsOf 132 = 1 := by kernel_rfl
theorem strCells : Tryd.prog.cellsOf 9 = 1 := by kernel_rfl
theorem partCells : Tryd.prog.cellsOf 69 = 3 := by kernel_rfl
theorem tabCells : Tryd.prog.cellsOf 70 = 12 := by kernel_rfl
theorem intCells : Tryd.prog.cellsOf 3 = 1 := by kernel_rfl
theorem star : ("*errors.errorString" : String) = "*" ++ "errors.errorString" := by decide +kernel
theorem pesRow (u : TypeId) (h : Tryd.prog.typeName? 3 u = some "*errors.errorString") : u = 107 :=
  typeName_ptr_named (nm := "errors.errorString") (by rw [← star]; kernel_rfl) (by kernel_rfl) (by decide) u (by rw [← star]; exact h)

/-- What the rows of this layer list. -/
def laidL : List (String × DataW Unit) := [("selion/arena.errNil", Rows.laid_selion_arena_errNil), ("selion/arena.errArg", Rows.laid_selion_arena_errArg), ("selion/arena.errAddr", Rows.laid_selion_arena_errAddr), ("selion/head.errNil", Rows.laid_selion_head_errNil), ("selion/head.errHead", Rows.laid_selion_head_errHead), ("selion/head.errAddr", Rows.laid_selion_head_errAddr), ("selion/head.parts", Rows.laid_selion_head_parts)]

theorem part_triple {W : World} {m : Nat} {c0 c1 c2 : Value} {x : DataW Unit × List MemPlace} {a b c : Int}
    (h : DataW.trod (fun _ => ()) Tryd.prog W 0 (fun _ => true) false m 69 [c0, c1, c2] = some x) (hx : DataW.agg [DataW.lit (Lit.int IntKind.i64 a), DataW.lit (Lit.int IntKind.i64 b), DataW.lit (Lit.int IntKind.i64 c)] = x.1) : c0 = .int .i64 a ∧ c1 = .int .i64 b ∧ c2 = .int .i64 c := by
  obtain ⟨y0, y1, y2, n, rfl, _, h0, h1, h2⟩ := Go.Deep.trod_struct3 Tryd.underlying69 h
  obtain ⟨n0, e0, rfl, _⟩ := DataW.trod_int Tryd.underlying3 h0
  obtain ⟨n1, e1, rfl, _⟩ := DataW.trod_int Tryd.underlying3 h1
  obtain ⟨n2, e2, rfl, _⟩ := DataW.trod_int Tryd.underlying3 h2
  simp [intCells] at e0 e1 e2
  simp at hx
  obtain ⟨rfl, rfl, rfl⟩ := hx
  exact ⟨e0, e1, e2⟩

set_option maxRecDepth 20000 in
theorem glob_of_laid {W : World} (h : laidMetH Tryd.prog laidL W) : ∃ E, GlobH E W := by
  have h0 : laidMet Tryd.prog laidL W := h
  have hu := Tryd.underlying57
  have s1 : [("selion/head.errNil", Rows.laid_selion_head_errNil (H := Unit)), ("selion/head.errHead", Rows.laid_selion_head_errHead), ("selion/head.errAddr", Rows.laid_selion_head_errAddr), ("selion/head.parts", Rows.laid_selion_head_parts)].Sublist laidL := by
    unfold laidL; exact .cons _ (.cons _ (.cons _ (List.Sublist.refl _)))
  have h1 := laidMet_sublist h0 s1
  clear h0 h
  obtain ⟨aN, sN⟩ := sent_one h1 gnN gtN hu pesRow Tryd.underlying107 Tryd.underlying132 rfl rfl Tryd.underlying9 esCells strCells
  obtain ⟨aH, sH⟩ := sent_one (laidMet_sublist h1 (.cons _ (List.Sublist.refl _))) gnH gtH hu pesRow Tryd.underlying107 Tryd.underlying132 rfl rfl Tryd.underlying9 esCells strCells
  obtain ⟨aA, sA⟩ := sent_one (laidMet_sublist h1 (.cons _ (.cons _ (List.Sublist.refl _)))) gnA gtA hu pesRow Tryd.underlying107 Tryd.underlying132 rfl rfl Tryd.underlying9 esCells strCells
  have n1 := sent_ne h1 gnN gtN gnH gtH hu pesRow Tryd.underlying107 Tryd.underlying132 rfl rfl Tryd.underlying9 esCells strCells sN sH
  have n2 := sent_ne (laidMet_sublist h1 (.cons_cons _ (.cons _ (List.Sublist.refl _)))) gnN gtN gnA gtA hu pesRow Tryd.underlying107 Tryd.underlying132 rfl rfl Tryd.underlying9 esCells strCells sN sA
  have n3 := sent_ne (laidMet_sublist h1 (.cons _ (List.Sublist.refl _))) gnH gtH gnA gtA hu pesRow Tryd.underlying107 Tryd.underlying132 rfl rfl Tryd.underlying9 esCells strCells sH sA
  obtain ⟨cs, fuel, p, hd, hcell⟩ := laid_cells (laidMet_sublist h1 (.cons _ (.cons _ (.cons _ (List.Sublist.refl _))))) gnP gtP
  obtain ⟨xs, m, rfl, hx, hl, hn, hel⟩ := DataW.trod_array Tryd.underlying70 hd
  rw [tabCells] at hl
  rw [partCells] at hel
  match cs, hl with
  | [c0, c1, c2, c3, c4, c5, c6, c7, c8, c9, c10, c11], _ =>
  match xs, hn with
  | [x0, x1, x2, x3], _ =>
  simp [Rows.laid_selion_head_parts] at hx
  obtain ⟨rfl, rfl, rfl⟩ := part_triple (hel 0 (by decide)) hx.1.1
  obtain ⟨rfl, rfl, rfl⟩ := part_triple (hel 1 (by decide)) hx.1.2.1
  obtain ⟨rfl, rfl, rfl⟩ := part_triple (hel 2 (by decide)) hx.1.2.2.1
  obtain ⟨rfl, rfl, rfl⟩ := part_triple (hel 3 (by decide)) hx.1.2.2.2
  have hz : 0 < W.heap.size ∧ 1 < W.heap.size ∧ 3 < W.heap.size ∧ 4 < W.heap.size :=
    ⟨cell_lt sH.cell, cell_lt (hcell 0), cell_lt sN.cell, cell_lt sA.cell⟩
  exact ⟨⟨aN, aH, aA⟩, hz, sN.cell, sH.cell, sA.cell, sN.block, sH.block, sA.block, n1, n2, n3, hcell 0, hcell 1, hcell 2, hcell 3, hcell 4, hcell 5, hcell 6, hcell 7, hcell 8, hcell 9, hcell 10, hcell 11⟩

/-- The heap that the initialisers leave meets the condition. -/
theorem door_met (os : Os) (args : Array Value) : laidMetH Tryd.prog laidL ((World.doorLaid Tryd.prog 189 os).forCall (fun _ _ => 0) ⟨#[], args, []⟩).memory :=
  laidMetH_of_parts3 (fuel := 8) (laidMet_of_run' 8 (by kernel_rfl) (by kernel_rfl)) (by kernel_rfl) (by kernel_rfl)
end Go.Proofs.YtdhligapadblgaaDoor

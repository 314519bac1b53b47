/- Layers addr and marks: from what the row lists to what the contracts ask. -/
import Derived.Test.YtmgllljilnkkcaaDoorM4
import Derived.Test.YtmgllljilnkkcaaDoorLd
import Derived.Test.YtmgllljilnkkcaaDoorRows
import Derived.ProofKit
import Derived.LaidMore
import Derived.Stop.Joined
import Derived.Stop.LaidTwo
import Derived.OpenShut
namespace Go.Proofs.YtmgllljilnkkcaaDoor
open Go.ChangeShapes Go.WideShapes Go.ChangeAt Go.RowKit

theorem own : ownKnob Tryd.prog.godebug = none := by kernel_rfl
theorem gnAddr : Tryd.prog.globalNamed "selion/addr.errAddr" = some 4 := by kernel_rfl
theorem gnSize : Tryd.prog.globalNamed "selion/addr.errSize" = some 3 := by kernel_rfl
theorem gnRef : Tryd.prog.globalNamed "selion/addr.errRef" = some 5 := by kernel_rfl
theorem gnCls : Tryd.prog.globalNamed "selion/addr.classes" = some 2 := by kernel_rfl
theorem gnTab : Tryd.prog.globalNamed "selion/marks.errTable" = some 0 := by kernel_rfl
theorem gnSiz : Tryd.prog.globalNamed "selion/marks.errSize" = some 1 := by kernel_rfl
theorem gtTab : (Tryd.prog.globals[0]?).map (·.type) = some 42 := by kernel_rfl
theorem gtSiz : (Tryd.prog.globals[1]?).map (·.type) = some 42 := by kernel_rfl
theorem gtAddr : (Tryd.prog.globals[4]?).map (·.type) = some 42 := by kernel_rfl
theorem gtSize : (Tryd.prog.globals[3]?).map (·.type) = some 42 := by kernel_rfl
theorem gtRef : (Tryd.prog.globals[5]?).map (·.type) = some 42 := by kernel_rfl
theorem gtCls : (Tryd.prog.globals[2]?).map (·.type) = some 85 := by kernel_rfl
theorem esCells : Tryd.prog.cellsOf 129 = 1 := by kernel_rfl
theorem strCells : Tryd.prog.cellsOf 9 = 1 := by kernel_rfl
theorem star : ("*errors.errorString" : String) = "*" ++ "errors.errorString" := by decide +kernel
theorem pesRow (u : TypeId) (h : Tryd.prog.typeName? 3 u = some "*errors.errorString") : u = 103 :=
  typeName_ptr_named (nm := "errors.errorString") (by rw [← star]; kernel_rfl) (by kernel_rfl) (by decide) u (by rw [← star]; exact h)
theorem clsCells : Tryd.prog.cellsOf 83 = 2 := by kernel_rfl
theorem tabCells : Tryd.prog.cellsOf 85 = 6 := by kernel_rfl
theorem intCells : Tryd.prog.cellsOf 3 = 1 := by kernel_rfl

/-- What the rows of this layer list. -/
def laidL : List (String × DataW Unit) := [("selion/addr.errAddr", Rows.laid_selion_addr_errAddr), ("selion/addr.errSize", Rows.laid_selion_addr_errSize), ("selion/addr.errRef", Rows.laid_selion_addr_errRef), ("selion/addr.classes", Rows.laid_selion_addr_classes), ("selion/marks.errTable", Rows.laid_selion_marks_errTable), ("selion/marks.errSize", Rows.laid_selion_marks_errSize)]

theorem cls_pair {W : World} {m : Nat} {c0 c1 : Value} {x : DataW Unit × List MemPlace} {a b : Int}
    (h : DataW.trod (fun _ => ()) Tryd.prog W 0 (fun _ => true) false m 83 [c0, c1] = some x) (hx : DataW.agg [DataW.lit (Lit.int IntKind.i64 a), DataW.lit (Lit.int IntKind.i64 b)] = x.1) : c0 = .int .i64 a ∧ c1 = .int .i64 b := by
  obtain ⟨y0, y1, n, rfl, _, h0, h1⟩ := trod_struct2 Tryd.underlying83 h
  obtain ⟨n0, e0, rfl, _⟩ := DataW.trod_int Tryd.underlying3 h0
  obtain ⟨n1, e1, rfl, _⟩ := DataW.trod_int Tryd.underlying3 h1
  simp [intCells] at e0 e1
  simp at hx
  obtain ⟨rfl, rfl⟩ := hx
  exact ⟨e0, e1⟩

set_option maxRecDepth 20000 in
theorem glob_of_laid {W : World} (h : laidMetH Tryd.prog laidL W) : ∃ E, Glob7 E W := by
  have h0 : laidMet Tryd.prog laidL W := h
  have hu := Tryd.underlying42
  obtain ⟨aA, sA⟩ := sent_one (laidMet_sublist (l' := [("selion/addr.errAddr", Rows.laid_selion_addr_errAddr)]) h0 (by simp [laidL])) gnAddr gtAddr hu pesRow Tryd.underlying103 Tryd.underlying129 rfl rfl Tryd.underlying9 esCells strCells
  obtain ⟨aS, sS⟩ := sent_one (laidMet_sublist (l' := [("selion/addr.errSize", Rows.laid_selion_addr_errSize)]) h0 (by simp [laidL])) gnSize gtSize hu pesRow Tryd.underlying103 Tryd.underlying129 rfl rfl Tryd.underlying9 esCells strCells
  obtain ⟨aR, sR⟩ := sent_one (laidMet_sublist (l' := [("selion/addr.errRef", Rows.laid_selion_addr_errRef)]) h0 (by simp [laidL])) gnRef gtRef hu pesRow Tryd.underlying103 Tryd.underlying129 rfl rfl Tryd.underlying9 esCells strCells
  have n1 := sent_ne (laidMet_sublist (l' := [("selion/addr.errAddr", Rows.laid_selion_addr_errAddr), ("selion/addr.errSize", Rows.laid_selion_addr_errSize)]) h0 (by simp [laidL])) gnAddr gtAddr gnSize gtSize hu pesRow Tryd.underlying103 Tryd.underlying129 rfl rfl Tryd.underlying9 esCells strCells sA sS
  have n2 := sent_ne (laidMet_sublist (l' := [("selion/addr.errAddr", Rows.laid_selion_addr_errAddr), ("selion/addr.errRef", Rows.laid_selion_addr_errRef)]) h0 (by simp [laidL])) gnAddr gtAddr gnRef gtRef hu pesRow Tryd.underlying103 Tryd.underlying129 rfl rfl Tryd.underlying9 esCells strCells sA sR
  have n3 := sent_ne (laidMet_sublist (l' := [("selion/addr.errSize", Rows.laid_selion_addr_errSize), ("selion/addr.errRef", Rows.laid_selion_addr_errRef)]) h0 (by simp [laidL])) gnSize gtSize gnRef gtRef hu pesRow Tryd.underlying103 Tryd.underlying129 rfl rfl Tryd.underlying9 esCells strCells sS sR
  obtain ⟨cs, fuel, p, hd, hcell⟩ := laid_cells (laidMet_sublist (l' := [("selion/addr.classes", Rows.laid_selion_addr_classes)]) h0 (by simp [laidL])) gnCls gtCls
  obtain ⟨xs, m, rfl, hx, hl, hn, hel⟩ := DataW.trod_array Tryd.underlying85 hd
  rw [tabCells] at hl
  rw [clsCells] at hel
  match cs, hl with
  | [c0, c1, c2, c3, c4, c5], _ =>
  match xs, hn with
  | [x0, x1, x2], _ =>
  simp [Rows.laid_selion_addr_classes] at hx
  obtain ⟨rfl, rfl⟩ := cls_pair (hel 0 (by decide)) hx.1.1
  obtain ⟨rfl, rfl⟩ := cls_pair (hel 1 (by decide)) hx.1.2.1
  obtain ⟨rfl, rfl⟩ := cls_pair (hel 2 (by decide)) hx.1.2.2
  obtain ⟨aT, sT⟩ := sent_one (laidMet_sublist (l' := [("selion/marks.errTable", Rows.laid_selion_marks_errTable)]) h0 (by simp [laidL])) gnTab gtTab hu pesRow Tryd.underlying103 Tryd.underlying129 rfl rfl Tryd.underlying9 esCells strCells
  obtain ⟨aZ, sZ⟩ := sent_one (laidMet_sublist (l' := [("selion/marks.errSize", Rows.laid_selion_marks_errSize)]) h0 (by simp [laidL])) gnSiz gtSiz hu pesRow Tryd.underlying103 Tryd.underlying129 rfl rfl Tryd.underlying9 esCells strCells
  have n4 := sent_ne (laidMet_sublist (l' := [("selion/marks.errTable", Rows.laid_selion_marks_errTable), ("selion/marks.errSize", Rows.laid_selion_marks_errSize)]) h0 (by unfold laidL; exact .cons _ (.cons _ (.cons _ (.cons _ (List.Sublist.refl _)))))) gnTab gtTab gnSiz gtSiz hu pesRow Tryd.underlying103 Tryd.underlying129 rfl rfl Tryd.underlying9 esCells strCells sT sZ
  have hsz : 6 ≤ W.heap.size := by
    obtain ⟨_, e1, _⟩ := cells_of_cell sA.cell
    obtain ⟨_, e2, _⟩ := cells_of_cell sS.cell
    obtain ⟨_, e3, _⟩ := cells_of_cell sR.cell
    obtain ⟨_, e4, _⟩ := cells_of_cell (hcell 0)
    have := block_lt e1
    have := block_lt e2
    have := block_lt e3
    have := block_lt e4
    obtain ⟨_, e5, _⟩ := cells_of_cell sT.cell
    obtain ⟨_, e6, _⟩ := cells_of_cell sZ.cell
    have := block_lt e5
    have := block_lt e6
    simp at *
    omega
  exact ⟨⟨⟨aA, aS, aR⟩, aT, aZ⟩, ⟨hsz, sA.cell, sS.cell, sR.cell, sA.block, sS.block, sR.block, n1, n2, n3, hcell 0, hcell 1, hcell 2, hcell 3, hcell 4, hcell 5⟩, sT.cell, sZ.cell, sT.block, sZ.block, n4⟩

/-- The heap that the initialisers leave meets the condition. -/
theorem door_met (os : Os) (args : Array Value) : laidMetH Tryd.prog laidL ((World.doorLaid Tryd.prog 112 os).forCall (fun _ _ => 0) ⟨#[], args, []⟩).memory :=
  laidMetH_of_parts3 (fuel := 8) (laidMet_of_run' 8 (by kernel_rfl) (by kernel_rfl)) (by kernel_rfl) (by kernel_rfl)
end Go.Proofs.YtmgllljilnkkcaaDoor

/- Layer bits: from what the row lists and reads to what the contracts ask. -/
import Derived.Test.YtlncilcoohmlkaaDoorU9
import Derived.Test.YtlncilcoohmlkaaDoorLd
import Derived.Test.YtlncilcoohmlkaaDoorRows
import Derived.ProofKit
import Derived.SizedLaws
import Derived.Lib.RowBridge
import Derived.Lib.SmallJoins
import Derived.LaidMore
import Derived.Stop.Joined
import Derived.Stop.LaidTwo
import Derived.OpenShut
namespace Go.Proofs.YtlncilcoohmlkaaDoor
open Go.ChangeShapes Go.WideShapes Go.ChangeAt Go.RowKit

theorem own : ownKnob Tryd.prog.godebug = none := by kernel_rfl
theorem laidOut : laidOutB Tryd.prog = true := by kernel_rfl
theorem gnB : Tryd.prog.globalNamed "selion/bits.errBits" = some 0 := by kernel_rfl
theorem gnP : Tryd.prog.globalNamed "selion/bits.errPlace" = some 1 := by kernel_rfl
theorem gnM : Tryd.prog.globalNamed "selion/bits.errMany" = some 2 := by kernel_rfl
theorem gtB : (Tryd.prog.globals[0]?).map (·.type) = some 49 := by kernel_rfl
theorem gtP : (Tryd.prog.globals[1]?).map (·.type) = some 49 := by kernel_rfl
theorem gtM : (Tryd.prog.globals[2]?).map (·.type) = some 49 := by kernel_rfl
theorem esCells : Tryd.prog.cellsOf 105 = 1 := by kernel_rfl
theorem strCells : Tryd.prog.cellsOf 9 = 1 := by kernel_rfl
theorem u32Cells : Tryd.prog.cellsOf 47 = 1 := by kernel_rfl
theorem bitsCells : Tryd.prog.cellsOf 24 = 2 := by kernel_rfl
theorem star : ("*errors.errorString" : String) = "*" ++ "errors.errorString" := by decide +kernel
theorem pesRow (u : TypeId) (h : Tryd.prog.typeName? 3 u = some "*errors.errorString") : u = 80 :=
  typeName_ptr_named (nm := "errors.errorString") (by rw [← star]; kernel_rfl) (by kernel_rfl) (by decide) u (by rw [← star]; exact h)

/-- What the rows of this layer list. -/
def laidL : List (String × DataW Unit) := [("selion/bits.errBits", Rows.laid_selion_bits_errBits), ("selion/bits.errPlace", Rows.laid_selion_bits_errPlace), ("selion/bits.errMany", Rows.laid_selion_bits_errMany)]

set_option maxRecDepth 20000 in
theorem glob_of_laid {W : World} (h : laidMetH Tryd.prog laidL W) : ∃ E, Glob2 E W := by
  have h0 : laidMet Tryd.prog laidL W := h
  have hu := Tryd.underlying49
  obtain ⟨aA, sA⟩ := sent_one (laidMet_sublist (l' := [("selion/bits.errBits", Rows.laid_selion_bits_errBits)]) h0 (by simp [laidL])) gnB gtB hu pesRow Tryd.underlying80 Tryd.underlying105 rfl rfl Tryd.underlying9 esCells strCells
  obtain ⟨aS, sS⟩ := sent_one (laidMet_sublist (l' := [("selion/bits.errPlace", Rows.laid_selion_bits_errPlace)]) h0 (by simp [laidL])) gnP gtP hu pesRow Tryd.underlying80 Tryd.underlying105 rfl rfl Tryd.underlying9 esCells strCells
  obtain ⟨aR, sR⟩ := sent_one (laidMet_sublist (l' := [("selion/bits.errMany", Rows.laid_selion_bits_errMany)]) h0 (by simp [laidL])) gnM gtM hu pesRow Tryd.underlying80 Tryd.underlying105 rfl rfl Tryd.underlying9 esCells strCells
  have n1 := sent_ne (laidMet_sublist (l' := [("selion/bits.errBits", Rows.laid_selion_bits_errBits), ("selion/bits.errPlace", Rows.laid_selion_bits_errPlace)]) h0 (by simp [laidL])) gnB gtB gnP gtP hu pesRow Tryd.underlying80 Tryd.underlying105 rfl rfl Tryd.underlying9 esCells strCells sA sS
  have n2 := sent_ne (laidMet_sublist (l' := [("selion/bits.errBits", Rows.laid_selion_bits_errBits), ("selion/bits.errMany", Rows.laid_selion_bits_errMany)]) h0 (by simp [laidL])) gnB gtB gnM gtM hu pesRow Tryd.underlying80 Tryd.underlying105 rfl rfl Tryd.underlying9 esCells strCells sA sR
  have n3 := sent_ne (laidMet_sublist (l' := [("selion/bits.errPlace", Rows.laid_selion_bits_errPlace), ("selion/bits.errMany", Rows.laid_selion_bits_errMany)]) h0 (by simp [laidL])) gnP gtP gnM gtM hu pesRow Tryd.underlying80 Tryd.underlying105 rfl rfl Tryd.underlying9 esCells strCells sS sR
  have hsz : 3 ≤ W.heap.size := by
    obtain ⟨_, e1, _⟩ := cells_of_cell sA.cell
    obtain ⟨_, e2, _⟩ := cells_of_cell sS.cell
    obtain ⟨_, e3, _⟩ := cells_of_cell sR.cell
    have := block_lt e1
    have := block_lt e2
    have := block_lt e3
    simp at *
    omega
  exact ⟨⟨aA, aS, aR⟩, hsz, sA.cell, sS.cell, sR.cell, sA.block, sS.block, sR.block, n1, n2, n3⟩

/-- The heap that the initialisers leave meets the condition. -/
theorem door_met (os : Os) (args : Array Value) : laidMetH Tryd.prog laidL ((World.doorLaid Tryd.prog 66 os).forCall (fun _ _ => 0) ⟨#[], args, []⟩).memory :=
  laidMetH_of_parts3 (fuel := 8) (laidMet_of_run' 8 (by kernel_rfl) (by kernel_rfl)) (by kernel_rfl) (by kernel_rfl)

set_option maxRecDepth 100000 in
set_option linter.constructorNameAsVariable false in
theorem bits_open {H : Type} {enc : TypeId × Value → H} {W : World} {base : Nat} {v : Value} {d : DataW H} {ps : List MemPlace} (hok : Value.okWide Tryd.prog W .any base 24 v)
    (h : DataW.Trod enc Tryd.prog W 0 (fun _ => true) true 24 v d ps) : ∃ n u ws, v = .agg #[.int .i64 n, u] ∧ WordsV W u ws := by
  obtain ⟨c0, c1, y0, y1, m, rfl, rfl, rfl, hy0, hy1⟩ := Joins.open_agg2 Tryd.underlying24 (by kernel_rfl) bitsCells hok h
  obtain ⟨n, e0, rfl, _⟩ := DataW.trod_int Tryd.underlying3 hy0
  simp at e0
  subst e0
  refine ⟨n, c1, ?_⟩
  rcases open_ints Tryd.underlying22 Tryd.underlying47 u32Cells hy1 with ⟨hcs, hx⟩ | ⟨a, len, cap, zs, hcs, _, hl, hmx, hz, hx, hcell, hwz⟩
  · simp at hcs
    subst hcs
    exact ⟨[], rfl, .empty none 0⟩
  · simp at hcs
    subst hcs
    simp only [if_true] at hz
    by_cases h0 : len = 0
    · subst h0
      exact ⟨[], rfl, .empty _ _⟩
    obtain ⟨b, off, spot⟩ := a
    have hspot : spot = none := by simpa [Addr.add] using World.cell?_spot (hcell 0 (by omega))
    subst hspot
    have hr : ∀ i, i < zs.length → 0 ≤ zs.getD i 0 ∧ zs.getD i 0 < 4294967296 := fun i hi => by
      have hmem : zs.getD i 0 ∈ zs := by rw [List.getD_eq_getElem?_getD, List.getElem?_eq_getElem hi]; exact List.getElem_mem hi
      have := hwz _ hmem
      rw [List.getD_eq_getElem?_getD] at this ⊢
      have h1 : IntKind.u32.min = 0 := by decide
      have h2 : IntKind.u32.max = 4294967295 := by decide
      simp only [Lit.wf] at this
      first
        | (simp only [h1, h2, decide_eq_true_eq, Bool.and_eq_true] at this; omega)
        | (simp [Lit.wf, h1, h2] at this; omega)
    have hlen : ((zs.take len).map Int.toNat).length = len := by simp; omega
    have hgd : ∀ i, i < len → ((zs.take len).map Int.toNat).getD i 0 = (zs.getD i 0).toNat := fun i hi => by
      simp [List.getD, hi, show i < zs.length by omega]
    have e := WordsV.some (w := W) b off cap ((zs.take len).map Int.toNat) (by rw [hlen]; exact hl) (by unfold maxLen at hmx; omega)
      (fun i => by
        by_cases hi : i < len
        · rw [hgd i hi]; have := hr i (by omega); omega
        · have : ((zs.take len).map Int.toNat).getD i 0 = 0 := by simp [List.getD, List.getElem?_take, hi]
          rw [this]; decide)
      (fun i hi => by
        rw [hlen] at hi
        rw [← add_plain, hcell i (by omega), hgd i hi]
        have := hr i (by omega)
        congr 2
        omega)
    rw [hlen] at e
    exact ⟨_, rfl, e⟩
end Go.Proofs.YtlncilcoohmlkaaDoor

/- A slice of integers that came in, opened. -/
import Derived.Test.YtmgllljilnkkcaaDoorIl
import Derived.ProofKit
import Derived.SizedLaws
import Derived.Lib.RowBridge
namespace Go.Proofs.YtmgllljilnkkcaaDoor
open Go.ChangeShapes Go.WideShapes Go.ChangeAt Go.RowKit
theorem laidOut : laidOutB Tryd.prog = true := by kernel_rfl
theorem cellsInt : Tryd.prog.cellsOf 3 = 1 := by kernel_rfl
set_option maxRecDepth 100000 in
set_option linter.constructorNameAsVariable false in
theorem ints_open {H : Type} {enc : TypeId × Value → H} {W : World} {base : Nat} {v : Value} {d : DataW H} {ps : List MemPlace} (hok : Value.okWide Tryd.prog W .any base 22 v)
    (h : DataW.Trod enc Tryd.prog W 0 (fun _ => true) true 22 v d ps) : ∃ l, IntsV W v l := by
  obtain ⟨a0, len, cap, rfl⟩ := okWide_slice Tryd.underlying22 hok
  obtain ⟨fuel, hf⟩ := h
  rcases open_ints Tryd.underlying22 Tryd.underlying3 cellsInt hf with ⟨hcs, hx⟩ | ⟨a, len', cap', zs, hcs, _, hl, hmx, hz, hx, hcell, hwz⟩
  · simp [Value.cells] at hcs
    obtain ⟨rfl, rfl, rfl⟩ := hcs
    exact ⟨[], .empty none 0⟩
  · simp [Value.cells] at hcs
    obtain ⟨rfl, rfl, rfl⟩ := hcs
    simp only [if_true] at hz
    by_cases h0 : len = 0
    · subst h0
      exact ⟨[], .empty _ _⟩
    obtain ⟨b, off, spot⟩ := a
    have hspot : spot = none := by simpa [Addr.add] using World.cell?_spot (hcell 0 (by omega))
    subst hspot
    have hlen : (zs.take len).length = len := by simp; omega
    have e := IntsV.some (w := W) b off cap (zs.take len) (by rw [hlen]; exact hl) (by unfold maxLen at hmx; omega) fun i hi => by
      rw [hlen] at hi
      rw [← add_plain, hcell i (by omega)]
      simp [List.getD, hi]
    rw [hlen] at e
    exact ⟨_, e⟩
end Go.Proofs.YtmgllljilnkkcaaDoor

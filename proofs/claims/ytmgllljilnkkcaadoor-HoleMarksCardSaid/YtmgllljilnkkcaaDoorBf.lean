/- What a loop that keeps one number in a box keeps, beside an iterator with boxes of its own. Of no one program. -/
import Derived.Test.YtmgllljilnkkcaaDoorGf
namespace Go.Proofs.YtmgllljilnkkcaaDoor
open Go Go.RowKit

structure BoxF (w : World) (s D : Nat) (o : Obj) (tb : TypeId) (v : Value) (F : Nat → Prop) (W : World) : Prop where
  below : Below s w W
  le : s + 1 ≤ D
  base : s ≤ W.heap.size
  box : Boxed W s tb v
  marks : W.heap[D]? = some (.deferred (some []))
  loop : W.heap[D + 1]? = some o
  fr : ∀ j, F j → j < W.heap.size ∧ j ≠ s ∧ j ≠ D ∧ j ≠ D + 1

theorem BoxF.next {w : World} {s D : Nat} {o : Obj} {tb : TypeId} {v : Value} {F : Nat → Prop} {W W' : World} (h : BoxF w s D o tb v F W) (hb : Below W.heap.size W W') :
    BoxF w s D o tb v (fun j => F j ∨ (W.heap.size ≤ j ∧ j < W'.heap.size)) W' := by
  have hs := h.box.lt
  have hD := block_lt h.marks
  have hD1 := block_lt h.loop
  refine ⟨h.below.trans (hb.mono h.base), h.le, Nat.le_trans h.base hb.size, (hb.block _ hs).trans h.box, (hb.block _ hD).trans h.marks, (hb.block _ hD1).trans h.loop, fun j hj => ?_⟩
  rcases hj with hj | ⟨h1, h2⟩
  · obtain ⟨a1, a2, a3, a4⟩ := h.fr j hj
    exact ⟨Nat.lt_of_lt_of_le a1 hb.size, a2, a3, a4⟩
  · exact ⟨h2, by omega, by omega, by omega⟩
theorem BoxF.sub {w : World} {s D : Nat} {o : Obj} {tb : TypeId} {v : Value} {F F' : Nat → Prop} {W : World} (h : BoxF w s D o tb v F W) (hs : ∀ j, F' j → F j) : BoxF w s D o tb v F' W :=
  ⟨h.below, h.le, h.base, h.box, h.marks, h.loop, fun j hj => h.fr j (hs j hj)⟩
theorem BoxF.set {w : World} {s D : Nat} {o : Obj} {tb : TypeId} {v : Value} {F : Nat → Prop} {W : World} (h : BoxF w s D o tb v F W) (b i : Nat) (x : Value) (hF : F b) (hsb : s ≤ b) : BoxF w s D o tb v F (W.setCell ⟨b, i, none⟩ x) := by
  obtain ⟨a1, a2, a3, a4⟩ := h.fr b hF
  have hk : ∀ j, j ≠ b → (W.setCell ⟨b, i, none⟩ x).heap[j]? = W.heap[j]? := fun j hj => Below.heap_setCell W ⟨b, i, none⟩ x j hj
  have hsz : (W.setCell ⟨b, i, none⟩ x).heap.size = W.heap.size := by show (W.heap.modify _ _).size = _; rw [Array.size_modify]
  exact ⟨h.below.setCell (p := ⟨b, i, none⟩) hsb x, h.le, by rw [hsz]; exact h.base, (hk s (fun e => a2 e.symm)).trans h.box, (hk D (fun e => a3 e.symm)).trans h.marks, (hk (D + 1) (fun e => a4 e.symm)).trans h.loop, fun j hj => by rw [hsz]; exact h.fr j hj⟩
theorem BoxF.put {w : World} {s D : Nat} {o : Obj} {tb : TypeId} {v : Value} {F : Nat → Prop} {W : World} (h : BoxF w s D o tb v F W) (o' : Obj) : BoxF w s D o' tb v F (W.putObj (D + 1) o') := by
  have hl := h.le
  exact ⟨below_putObj h.below o' h.loop (by omega), hl, by rw [putObj_size]; exact h.base, (World.putObj_heap_other (by omega)).trans h.box, (World.putObj_heap_other (by omega)).trans h.marks, World.putObj_heap_same (block_lt h.loop), fun j hj => by rw [putObj_size]; exact h.fr j hj⟩
/-- The number turned. -/
theorem BoxF.turn {w : World} {s D : Nat} {o : Obj} {tb : TypeId} {v : Value} {F : Nat → Prop} {W : World} (h : BoxF w s D o tb v F W) (v' : Value) :
    BoxF w s D o tb v' F (W.setCell ⟨s, 0, none⟩ v') ∧ ∀ j, F j → (W.setCell ⟨s, 0, none⟩ v').heap[j]? = W.heap[j]? := by
  have hl := h.le
  have hk : ∀ j, j ≠ s → (W.setCell ⟨s, 0, none⟩ v').heap[j]? = W.heap[j]? := fun j hj => Below.heap_setCell W ⟨s, 0, none⟩ v' j hj
  have hsz : (W.setCell ⟨s, 0, none⟩ v').heap.size = W.heap.size := by show (W.heap.modify _ _).size = _; rw [Array.size_modify]
  exact ⟨⟨h.below.setCell (p := ⟨s, 0, none⟩) (Nat.le_refl _) v', hl, by rw [hsz]; exact h.base, h.box.set v', (hk D (by omega)).trans h.marks, (hk (D + 1) (by omega)).trans h.loop, fun j hj => by rw [hsz]; exact h.fr j hj⟩, fun j hj => hk j (h.fr j hj).2.1⟩
end Go.Proofs.YtmgllljilnkkcaaDoor

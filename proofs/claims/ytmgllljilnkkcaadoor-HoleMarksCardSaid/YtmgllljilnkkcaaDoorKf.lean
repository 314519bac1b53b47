/- What a loop that stores nothing keeps, beside an iterator with boxes of its own: some blocks as they lay. Of no one program. -/
import Derived.Test.YtmgllljilnkkcaaDoorGf
namespace Go.Proofs.YtmgllljilnkkcaaDoor
open Go Go.RowKit

structure KeepF (w W0 : World) (s : Nat) (Kp F : Nat → Prop) (W : World) : Prop where
  below : Below s w W
  base : s ≤ W.heap.size
  size : W0.heap.size ≤ W.heap.size
  in0 : ∀ k, Kp k → k < W0.heap.size
  same : ∀ k, Kp k → W.heap[k]? = W0.heap[k]?
  fr : ∀ j, F j → j < W.heap.size ∧ ¬ Kp j

theorem KeepF.next {w W0 : World} {s : Nat} {Kp F : Nat → Prop} {W W' : World} (h : KeepF w W0 s Kp F W) (hb : Below W.heap.size W W') : KeepF w W0 s Kp (fun j => F j ∨ (W.heap.size ≤ j ∧ j < W'.heap.size)) W' := by
  refine ⟨h.below.trans (hb.mono h.base), Nat.le_trans h.base hb.size, Nat.le_trans h.size hb.size, h.in0, fun k hk => (hb.block k (Nat.lt_of_lt_of_le (h.in0 k hk) h.size)).trans (h.same k hk), fun j hj => ?_⟩
  rcases hj with hj | ⟨h1, h2⟩
  · exact ⟨Nat.lt_of_lt_of_le (h.fr j hj).1 hb.size, (h.fr j hj).2⟩
  · exact ⟨h2, fun hk => by have := h.in0 j hk; have := h.size; omega⟩
theorem KeepF.sub {w W0 : World} {s : Nat} {Kp F F' : Nat → Prop} {W : World} (h : KeepF w W0 s Kp F W) (hs : ∀ j, F' j → F j) : KeepF w W0 s Kp F' W :=
  ⟨h.below, h.base, h.size, h.in0, h.same, fun j hj => h.fr j (hs j hj)⟩
theorem KeepF.set {w W0 : World} {s : Nat} {Kp F : Nat → Prop} {W : World} (h : KeepF w W0 s Kp F W) (b i : Nat) (x : Value) (hF : F b) (hsb : s ≤ b) : KeepF w W0 s Kp F (W.setCell ⟨b, i, none⟩ x) := by
  have hk : ∀ j, j ≠ b → (W.setCell ⟨b, i, none⟩ x).heap[j]? = W.heap[j]? := fun j hj => Below.heap_setCell W ⟨b, i, none⟩ x j hj
  have hsz : (W.setCell ⟨b, i, none⟩ x).heap.size = W.heap.size := by show (W.heap.modify _ _).size = _; rw [Array.size_modify]
  exact ⟨h.below.setCell (p := ⟨b, i, none⟩) hsb x, by rw [hsz]; exact h.base, by rw [hsz]; exact h.size, h.in0, fun k hk' => (hk k (fun e => (h.fr b hF).2 (e ▸ hk'))).trans (h.same k hk'), fun j hj => by rw [hsz]; exact h.fr j hj⟩
/-- A block turned, and turned back. -/
theorem below_turn {W V : World} {l : Nat} {o : Obj} (o' : Obj) (hl : W.heap[l]? = some o) (hb : Below (W.putObj l o').heap.size (W.putObj l o') V) : Below W.heap.size W (V.putObj l o) := by
  have hsz := hb.size
  rw [putObj_size] at hsz
  refine ⟨hb.os, hb.tape, hb.output, by rw [putObj_size]; exact hsz, fun k hk => ?_⟩
  by_cases e : k = l
  · subst e
    rw [World.putObj_heap_same (by omega), hl]
  · exact (World.putObj_heap_other e).trans ((hb.block k (by rw [putObj_size]; exact hk)).trans (World.putObj_heap_other e))
end Go.Proofs.YtmgllljilnkkcaaDoor

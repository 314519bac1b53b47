/- The contract of an iterator that keeps boxes of its own between the rounds, and may be stopped. Of no one program. -/
import Derived.Test.YtmgllljilnkkcaaDoorGv
namespace Go.Proofs.YtmgllljilnkkcaaDoor
open Go Go.RowKit

/-- As 'Gives'; F: the blocks that the rounds leave alone; the iterator lays its own into F, and stores into these. -/
def GivesF {α : Type} (P : Program) (g : Nat) (lb : Array Value) (enc : α → Value) (xs : List α) (F0 : Nat → Prop) (W0 : World) : Prop :=
  ∀ (l : Nat) (J : List α → (Nat → Prop) → World → Prop) (E : World → Prop) (W : World), Below W0.heap.size W0 W → J [] F0 W →
    (∀ pre F W1 W2, J pre F W1 → Below W1.heap.size W1 W2 → J pre (fun j => F j ∨ (W1.heap.size ≤ j ∧ j < W2.heap.size)) W2) →
    (∀ pre F W1 b i v, J pre F W1 → F b → W0.heap.size ≤ b → J pre F (W1.setCell ⟨b, i, none⟩ v)) →
    (∀ pre F F' W1, J pre F W1 → (∀ k, F' k → F k) → J pre F' W1) →
    (∀ W1 W2, E W1 → Below W1.heap.size W1 W2 → E W2) →
    (∀ pre x post F W1, xs = pre ++ x :: post → J pre F W1 → YieldAt Fence.wide 8 P l #[enc x] W1 fun e W' => (e = .returned (.bool true) ∧ J (pre ++ [x]) F W' ∧ ∀ k, F k → W'.heap[k]? = W1.heap[k]?) ∨ (e = .returned (.bool false) ∧ E W')) →
    CallsIn Fence.wide 9 P g (#[.func (.yield l) #[] #[]] ++ lb) W fun e W' => (∃ v, e = .returned v) ∧ ((∃ F, J xs F W') ∨ E W')

/-- What a loop that collects keeps, beside such an iterator. -/
structure ColF (w : World) (s D : Nat) (o : Obj) (tb te : TypeId) (size : Nat) (k : Nat) (xs : List Value) (F : Nat → Prop) (W : World) : Prop where
  col : Col w s D o tb te size k xs W
  fr : ∀ j, F j → j < W.heap.size ∧ j ≠ s ∧ j ≠ D ∧ j ≠ D + 1 ∧ ∀ v, Boxed W s tb v → v.ownBlock ≠ some j

theorem boxed_eq {W : World} {B : Nat} {t : TypeId} {u v : Value} (h : Boxed W B t u) (k : Boxed W B t v) : u = v := by
  have := (show W.heap[B]? = _ from h).symm.trans k
  simpa using this
theorem own_lt {W : World} {base : Nat} {e : TypeId} {size : Nat} {v : Value} {k : Nat} {xs : List Value} (h : W.ownsRow base e size v k xs) {j : Nat} (hj : v.ownBlock = some j) : j < W.heap.size := by
  rcases h.2 with ⟨rfl, _⟩ | ⟨g, cap, cur, rfl, _, hg, _⟩
  · simp [Value.ownBlock] at hj
  · obtain rfl : g = j := by simpa [Value.ownBlock] using hj
    exact block_lt hg

theorem ColF.next {w : World} {s D : Nat} {o : Obj} {tb te : TypeId} {size k : Nat} {xs : List Value} {F : Nat → Prop} {W W' : World} (h : ColF w s D o tb te size k xs F W) (hb : Below W.heap.size W W') :
    ColF w s D o tb te size k xs (fun j => F j ∨ (W.heap.size ≤ j ∧ j < W'.heap.size)) W' := by
  refine ⟨h.col.next hb, fun j hj => ?_⟩
  obtain ⟨v0, hv0, hr0⟩ := h.col.box
  have hs := hv0.lt
  have hD := block_lt h.col.marks
  have hD1 := block_lt h.col.loop
  have hbox : ∀ v, Boxed W' s tb v → Boxed W s tb v := fun v hv => ((hb.block _ hs).symm.trans hv)
  rcases hj with hj | ⟨h1, h2⟩
  · obtain ⟨a1, a2, a3, a4, a5⟩ := h.fr j hj
    exact ⟨Nat.lt_of_lt_of_le a1 hb.size, a2, a3, a4, fun v hv => a5 v (hbox v hv)⟩
  · refine ⟨h2, by omega, by omega, by omega, fun v hv e => ?_⟩
    obtain rfl := boxed_eq (hbox v hv) hv0
    have := own_lt hr0 e
    omega
theorem ColF.sub {w : World} {s D : Nat} {o : Obj} {tb te : TypeId} {size k : Nat} {xs : List Value} {F F' : Nat → Prop} {W : World} (h : ColF w s D o tb te size k xs F W) (hs : ∀ j, F' j → F j) : ColF w s D o tb te size k xs F' W :=
  ⟨h.col, fun j hj => h.fr j (hs j hj)⟩
theorem ColF.set {w : World} {s D : Nat} {o : Obj} {tb te : TypeId} {size k : Nat} {xs : List Value} {F : Nat → Prop} {W : World} (h : ColF w s D o tb te size k xs F W) (b i : Nat) (x : Value) (hF : F b) (hsb : s ≤ b) : ColF w s D o tb te size k xs F (W.setCell ⟨b, i, none⟩ x) := by
  obtain ⟨a1, a2, a3, a4, a5⟩ := h.fr b hF
  obtain ⟨v0, hv0, hr0⟩ := h.col.box
  have hk : ∀ j, j ≠ b → (W.setCell ⟨b, i, none⟩ x).heap[j]? = W.heap[j]? := fun j hj => Below.heap_setCell W ⟨b, i, none⟩ x j hj
  have hsz : (W.setCell ⟨b, i, none⟩ x).heap.size = W.heap.size := by show (W.heap.modify _ _).size = _; rw [Array.size_modify]
  have hg : W.grownBy (W.setCell ⟨b, i, none⟩ x) (some b) := ⟨rfl, rfl, rfl, by rw [hsz]; exact Nat.le_refl _, fun j _ hj => hk j (fun e => hj (by rw [e]))⟩
  refine ⟨⟨h.col.below.setCell (p := ⟨b, i, none⟩) hsb x, h.col.le, by rw [hsz]; exact h.col.base, ⟨v0, (hk s (fun e => a2 e.symm)).trans hv0, hr0.kept hg ?_⟩, (hk D (fun e => a3 e.symm)).trans h.col.marks, (hk (D + 1) (fun e => a4 e.symm)).trans h.col.loop⟩, fun j hj => ?_⟩
  · by_cases e : v0.ownBlock = none
    · exact .inl e
    · exact .inr (a5 v0 hv0)
  · obtain ⟨c1, c2, c3, c4, c5⟩ := h.fr j hj
    exact ⟨by rw [hsz]; exact c1, c2, c3, c4, fun v hv => c5 v ((hk s (fun e => a2 e.symm)).symm.trans hv)⟩
end Go.Proofs.YtmgllljilnkkcaaDoor

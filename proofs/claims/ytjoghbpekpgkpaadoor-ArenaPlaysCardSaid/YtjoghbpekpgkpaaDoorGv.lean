/- The contract of an iterator that may be stopped; what a loop that collects keeps between two rounds. Of no one program. -/
import Derived.Test.YtjoghbpekpgkpaaDoorIl
import Derived.RangeFuncBox
import Derived.OwnWalkIn
namespace Go.Proofs.YtjoghbpekpgkpaaDoor
open Go Go.RowKit

/-- All blocks of W0 but those of S lie as they lay. -/
structure Sam (S : Nat → Prop) (W0 W : World) : Prop where
  size : W0.heap.size ≤ W.heap.size
  same : ∀ k, k < W0.heap.size → ¬ S k → W.heap[k]? = W0.heap[k]?

theorem Sam.refl (S : Nat → Prop) (W : World) : Sam S W W := ⟨Nat.le_refl _, fun _ _ _ => rfl⟩
theorem Sam.below {S : Nat → Prop} {W0 W W' : World} (h : Sam S W0 W) (hb : Below W.heap.size W W') : Sam S W0 W' :=
  ⟨Nat.le_trans h.size hb.size, fun k hk hs => (hb.block k (Nat.lt_of_lt_of_le hk h.size)).trans (h.same k hk hs)⟩
theorem Sam.cell {S : Nat → Prop} {W0 W : World} (h : Sam S W0 W) {p : Addr} {v : Value} (hv : W0.cell? p = some v) (hs : ¬ S p.block) : W.cell? p = some v := by
  have := h.same p.block (cell_lt hv) hs
  unfold World.cell? at hv ⊢
  rw [this]
  exact hv

/-- An iterator's value: called at a loop's yield, it hands the members of xs one by one, in order, until yield answers no. -/
def Gives {α : Type} (P : Program) (g : Nat) (lb : Array Value) (enc : α → Value) (xs : List α) (S : Nat → Prop) (W0 : World) : Prop :=
  ∀ (l : Nat) (J : List α → World → Prop) (E : World → Prop) (W : World), Sam S W0 W →
    (∀ pre W1 W2, J pre W1 → Below W1.heap.size W1 W2 → J pre W2) → (∀ W1 W2, E W1 → Below W1.heap.size W1 W2 → E W2) →
    (∀ pre x post W1, xs = pre ++ x :: post → J pre W1 → Sam S W0 W1 → YieldAt Fence.wide 8 P l #[enc x] W1 fun e W' => (e = .returned (.bool true) ∧ J (pre ++ [x]) W' ∧ Sam S W0 W') ∨ (e = .returned (.bool false) ∧ E W')) →
    J [] W →
    CallsIn Fence.wide 9 P g (#[.func (.yield l) #[] #[]] ++ lb) W fun e W' => (∃ v, e = .returned v) ∧ (J xs W' ∨ E W')

theorem ownsRow_below {W W' : World} {base : Nat} {e : TypeId} {size : Nat} {v : Value} {n : Nat} {xs : List Value} (h : W.ownsRow base e size v n xs) (hb : Below W.heap.size W W') : W'.ownsRow base e size v n xs := by
  refine ⟨h.1, ?_⟩
  rcases h.2 with hn | ⟨g, cap, cur, hv, hbg, hg, rest⟩
  · exact .inl hn
  · exact .inr ⟨g, cap, cur, hv, hbg, (hb.block g (block_lt hg)).trans hg, rest⟩

/-- What a loop that collects keeps: its box and the row that it owns, the loop's own blocks. -/
structure Col (w : World) (s D : Nat) (o : Obj) (tb te : TypeId) (size : Nat) (k : Nat) (xs : List Value) (W : World) : Prop where
  below : Below s w W
  le : s + 1 ≤ D
  base : s ≤ W.heap.size
  box : ∃ v, Boxed W s tb v ∧ W.ownsRow D te size v k xs
  marks : W.heap[D]? = some (.deferred (some []))
  loop : W.heap[D + 1]? = some o

theorem Col.next {w : World} {s D : Nat} {o : Obj} {tb te : TypeId} {size k : Nat} {xs : List Value} {W W' : World} (h : Col w s D o tb te size k xs W) (hb : Below W.heap.size W W') : Col w s D o tb te size k xs W' := by
  obtain ⟨v, hv, hr⟩ := h.box
  exact ⟨h.below.trans (hb.mono h.base), h.le, Nat.le_trans h.base hb.size, ⟨v, (hb.block _ hv.lt).trans hv, ownsRow_below hr hb⟩, (hb.block _ (block_lt h.marks)).trans h.marks, (hb.block _ (block_lt h.loop)).trans h.loop⟩

theorem putObj_size (W : World) (l : Nat) (o : Obj) : (W.putObj l o).heap.size = W.heap.size := by simp [World.putObj]
theorem Col.put {w : World} {s D : Nat} {o : Obj} {tb te : TypeId} {size k : Nat} {xs : List Value} {W : World} (h : Col w s D o tb te size k xs W) (hno : o.isCells = false) (o' : Obj) : Col w s D o' tb te size k xs (W.putObj (D + 1) o') := by
  have hl := h.le
  have hlt := block_lt h.loop
  obtain ⟨v, hv, hr⟩ := h.box
  exact ⟨below_putObj h.below o' h.loop (by omega), hl, (putObj_size W (D + 1) o').symm ▸ h.base,
    ⟨v, (World.putObj_heap_other (by omega)).trans hv, ownsRow_putObj hr o' h.loop hno⟩, (World.putObj_heap_other (by omega)).trans h.marks, World.putObj_heap_same hlt⟩

theorem ownsRow_down {W : World} {base base' : Nat} {e : TypeId} {size : Nat} {v : Value} {k : Nat} {xs : List Value} (h : W.ownsRow base e size v k xs) (hb : base' ≤ base) : W.ownsRow base' e size v k xs := by
  refine ⟨h.1, ?_⟩
  rcases h.2 with hn | ⟨g, cap, cur, hv, hbg, rest⟩
  · exact .inl hn
  · exact .inr ⟨g, cap, cur, hv, Nat.le_trans hb hbg, rest⟩
theorem ownsRow_block {W : World} {base : Nat} {e : TypeId} {size : Nat} {v : Value} {k : Nat} {xs : List Value} (h : W.ownsRow base e size v k xs) {j : Nat} (hj : some j = v.ownBlock) : base ≤ j := by
  rcases h.2 with ⟨rfl, _⟩ | ⟨g, cap, cur, rfl, hbg, _⟩
  · simp [Value.ownBlock] at hj
  · obtain rfl : j = g := by simpa [Value.ownBlock] using hj
    exact hbg

theorem Col.appended {w : World} {s D : Nat} {o : Obj} {tb te : TypeId} {size k m : Nat} {xs ys : List Value} {W w1 : World} {v v' : Value} {tmp : Obj} {W0 : World}
    (h : Col w s D o tb te size k xs W) (hv : Boxed W s tb v) (hrow : W.ownsRow D te size v k xs) (hte : tb ≠ te) (hno : o.isCells = false) (hS : Sam (fun j => j = s) W0 W) (hD : W0.heap.size ≤ D)
    (hown : w1.ownsRow D te size v' m ys) (hgrow : (W.alloc tmp).grownBy w1 v.ownBlock) :
    Boxed w1 s tb v ∧ Col w s D o tb te size m ys (w1.setCell ⟨s, 0, none⟩ v') ∧ Sam (fun j => j = s) W0 (w1.setCell ⟨s, 0, none⟩ v') := by
  have hle := h.le
  obtain ⟨a1, a2, a3, a4, a5⟩ := Boxed.appended hv hte (ownsRow_down hrow (show s ≤ D by omega)) h.base (Nat.le_refl _) (ownsRow_down hown (show s ≤ D by omega)) hgrow
  have hrow' : (w1.setCell ⟨s, 0, none⟩ v').ownsRow D te size v' m ys := hown.kept (grownBy_setCell' w1 s v') (.inr (a1.not_row hte hown).symm)
  refine ⟨a1, ⟨h.below.trans a5, hle, Nat.le_trans h.base a5.size, ⟨v', a2, hrow'⟩, ?_, ?_⟩, ?_, ?_⟩
  · exact a4.same _ _ h.marks rfl
  · exact a4.same _ _ h.loop hno
  · exact Nat.le_trans hS.size a5.size
  · intro j hj hjs
    have hjs' : j ≠ s := hjs
    have hjW : j < W.heap.size := Nat.lt_of_lt_of_le hj hS.size
    refine (Below.heap_setCell w1 _ _ j hjs').trans ((hgrow.block j (by simp; omega) ?_).trans ((Below.heap_alloc _ _ _ hjW).trans (hS.same j hj hjs)))
    intro e
    have := ownsRow_block hrow e
    omega

theorem Sam.put {S : Nat → Prop} {W0 W : World} (h : Sam S W0 W) {l : Nat} (o : Obj) (hl : W0.heap.size ≤ l) : Sam S W0 (W.putObj l o) :=
  ⟨(putObj_size W l o).symm ▸ h.size, fun k hk hs => (World.putObj_heap_other (by omega)).trans (h.same k hk hs)⟩

/-- One block, two, three blocks laid. -/
theorem allocs1 (w : World) (a : Obj) : ∃ W0, w.alloc a = W0 ∧ Below w.heap.size w W0 ∧ W0.heap.size = w.heap.size + 1 ∧ W0.heap[w.heap.size]? = some a :=
  ⟨_, rfl, (Below.refl _ w).alloc (Nat.le_refl _) _, by simp, World.alloc_heap_new w _⟩
theorem allocs2 (w : World) (a b : Obj) : ∃ W0, (w.alloc a).alloc b = W0 ∧ Below w.heap.size w W0 ∧ W0.heap.size = w.heap.size + 2 ∧ W0.heap[w.heap.size]? = some a ∧ W0.heap[w.heap.size + 1]? = some b := by
  have h1 := World.alloc_heap_new (w.alloc a) b
  rw [World.size_alloc] at h1
  exact ⟨_, rfl, ((Below.refl _ w).alloc (Nat.le_refl _) _).alloc (by simp) _, by simp, (Below.heap_alloc _ _ _ (by simp)).trans (World.alloc_heap_new w _), h1⟩
theorem allocs3 (w : World) (a b c : Obj) : ∃ W0, ((w.alloc a).alloc b).alloc c = W0 ∧ Below w.heap.size w W0 ∧ W0.heap.size = w.heap.size + 3 ∧ W0.heap[w.heap.size]? = some a ∧ W0.heap[w.heap.size + 1]? = some b ∧ W0.heap[w.heap.size + 1 + 1]? = some c := by
  have h1 := World.alloc_heap_new (w.alloc a) b
  rw [World.size_alloc] at h1
  have h2 := World.alloc_heap_new ((w.alloc a).alloc b) c
  rw [World.size_alloc, World.size_alloc] at h2
  exact ⟨_, rfl, (((Below.refl _ w).alloc (Nat.le_refl _) _).alloc (by simp) _).alloc (by simp; omega) _, by simp,
    (Below.heap_alloc _ _ _ (by simp; omega)).trans ((Below.heap_alloc _ _ _ (by simp)).trans (World.alloc_heap_new w _)), (Below.heap_alloc _ _ _ (by simp)).trans h1, h2⟩
end Go.Proofs.YtjoghbpekpgkpaaDoor

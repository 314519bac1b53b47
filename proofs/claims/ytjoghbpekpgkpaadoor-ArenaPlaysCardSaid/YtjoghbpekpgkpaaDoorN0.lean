/- An array of bytes that the call has laid and stores into; an arena that holds one. Of no one program. -/
import Derived.Test.YtjoghbpekpgkpaaDoorGv
import Derived.Laws.IdiomCopy
import Derived.Laws.MakeOwn
namespace Go.Proofs.YtjoghbpekpgkpaaDoor
open Go Go.RowKit

/-- Block g holds n bytes f 0, f 1, .. -/
structure ArB (W : World) (g : Nat) (te : TypeId) (n : Nat) (f : Nat → Nat) : Prop where
  ex : ∃ cur, W.heap[g]? = some (.cells cur te (0, 0)) ∧ cur.size = n ∧ ∀ j, j < n → cur[j]? = some (.int .u8 ((f j : Nat) : Int))
  mx : n ≤ 1000000
  by8 : ∀ j, f j < 256

theorem ArB.lt {W : World} {g n : Nat} {te : TypeId} {f : Nat → Nat} (h : ArB W g te n f) : g < W.heap.size := by
  obtain ⟨cur, h1, _⟩ := h.ex
  exact block_lt h1
theorem ArB.cell {W : World} {g n : Nat} {te : TypeId} {f : Nat → Nat} (h : ArB W g te n f) (j : Nat) (hj : j < n) : W.cell? ⟨g, j, none⟩ = some (.int .u8 ((f j : Nat) : Int)) := by
  obtain ⟨cur, h1, _, h2⟩ := h.ex
  exact cells_cell h1 (h2 j hj)
theorem ArB.free {W : World} {g n : Nat} {te : TypeId} {f : Nat → Nat} (h : ArB W g te n f) (j : Nat) : W.frozen? ⟨g, j, none⟩ = false := by
  obtain ⟨cur, h1, _, h2⟩ := h.ex
  exact cells_free h1
theorem ArB.same {W W' : World} {g n : Nat} {te : TypeId} {f : Nat → Nat} (h : ArB W g te n f) (he : W'.heap[g]? = W.heap[g]?) : ArB W' g te n f := by
  obtain ⟨cur, h1, h2⟩ := h.ex
  exact ⟨⟨cur, he.trans h1, h2⟩, h.mx, h.by8⟩
theorem ArB.next {W W' : World} {g n : Nat} {te : TypeId} {f : Nat → Nat} (h : ArB W g te n f) (hb : Below W.heap.size W W') : ArB W' g te n f := h.same (hb.block _ h.lt)
theorem ArB.congr {W : World} {g n : Nat} {te : TypeId} {f f' : Nat → Nat} (h : ArB W g te n f) (he : ∀ j, f j = f' j) : ArB W g te n f' := by
  obtain rfl : f = f' := funext he
  exact h
theorem ArB.set {W : World} {g n : Nat} {te : TypeId} {f : Nat → Nat} (h : ArB W g te n f) (i : Nat) (v : Nat) (hv : v < 256) : ArB (W.setCell ⟨g, i, none⟩ (.int .u8 ((v : Nat) : Int))) g te n (fun j => if j = i then v else f j) := by
  obtain ⟨cur, h1, h2, h3⟩ := h.ex
  refine ⟨⟨cur.setIfInBounds i (.int .u8 ((v : Nat) : Int)), heap_setCell_same _ h1, by simpa using h2, fun j hj => ?_⟩, h.mx, fun j => ?_⟩
  · by_cases e : j = i
    · subst e
      rw [Array.getElem?_setIfInBounds_self]
      simp only [if_true]
      rw [if_pos (by omega)]
    · rw [Array.getElem?_setIfInBounds_ne (fun e' => e e'.symm), if_neg e]
      exact h3 j hj
  · have := h.by8 j
    show (if j = i then v else f j) < 256
    split <;> omega

theorem heap_setCells {b : Nat} {te : TypeId} : ∀ (vs : List Value) (o : Nat) (W : World) (cs : Array Value), W.heap[b]? = some (.cells cs te (0, 0)) → ∃ cs', (W.setCells b o vs).heap[b]? = some (.cells cs' te (0, 0)) ∧ cs'.size = cs.size
  | [], _, _, cs, h => ⟨cs, h, rfl⟩
  | v :: vs, o, W, cs, h => by
    obtain ⟨cs', h1, h2⟩ := heap_setCells vs (o + 1) (W.setCell ⟨b, o, none⟩ v) _ (heap_setCell_same (i := o) v h)
    exact ⟨cs', h1, by rw [h2]; simp⟩
theorem cells_other {b k : Nat} (hk : k ≠ b) : ∀ (vs : List Value) (o : Nat) (W : World), (W.setCells b o vs).heap[k]? = W.heap[k]?
  | [], _, _ => rfl
  | v :: vs, o, W => (cells_other hk vs (o + 1) _).trans (Below.heap_setCell W ⟨b, o, none⟩ v k hk)
theorem grown_refl (W : World) (r : Option Nat) : W.grownBy W r := ⟨rfl, rfl, rfl, Nat.le_refl _, fun _ _ _ => rfl⟩
theorem grown_trans {W1 W2 W3 : World} {r : Option Nat} (h1 : W1.grownBy W2 r) (h2 : W2.grownBy W3 r) : W1.grownBy W3 r := by
  obtain ⟨a1, a2, a3, a4, a5⟩ := h1
  obtain ⟨b1, b2, b3, b4, b5⟩ := h2
  exact ⟨b1.trans a1, b2.trans a2, b3.trans a3, Nat.le_trans a4 b4, fun j hj hn => (b5 j (Nat.lt_of_lt_of_le hj a4) hn).trans (a5 j hj hn)⟩
theorem grown_set (W : World) (b i : Nat) (v : Value) : W.grownBy (W.setCell ⟨b, i, none⟩ v) (some b) :=
  ⟨rfl, rfl, rfl, by show W.heap.size ≤ (W.heap.modify _ _).size; rw [Array.size_modify]; exact Nat.le_refl _, fun j _ hj => Below.heap_setCell W ⟨b, i, none⟩ v j (fun e => hj (by rw [e]))⟩
theorem grown_cells (b : Nat) : ∀ (vs : List Value) (o : Nat) (W : World), W.grownBy (W.setCells b o vs) (some b)
  | [], _, W => grown_refl W _
  | v :: vs, o, W => grown_trans (grown_set W b o v) (grown_cells b vs (o + 1) _)
theorem grown_below {W W' : World} (h : Below W.heap.size W W') (r : Option Nat) : W.grownBy W' r := ⟨h.os, h.tape, h.output, h.size, fun j hj _ => h.block j hj⟩
theorem below_grown {B : Nat} {w W W' : World} {g : Nat} (h : Below B w W) (hW : B ≤ W.heap.size) (hg : B ≤ g) (h2 : W.grownBy W' (some g)) : Below B w W' :=
  h.grown h2 hW (fun k e => by cases e; exact hg)
theorem grown_block {W W' : World} {g k : Nat} {o : Obj} (h : W.grownBy W' (some g)) (hk : k ≠ g) (ho : W.heap[k]? = some o) : W'.heap[k]? = some o :=
  (h.block k (block_lt ho) (fun e => hk (Option.some.inj e))).trans ho

def put (f : Nat → Nat) (o : Nat) (bs : List Nat) : Nat → Nat := fun j => if o ≤ j ∧ j < o + bs.length then bs.getD (j - o) 0 else f j

theorem ArB.sets {W : World} {g n : Nat} {te : TypeId} {f : Nat → Nat} (h : ArB W g te n f) (o : Nat) (bs : List Nat) (hb : ∀ x, x ∈ bs → x < 256) (hle : o + bs.length ≤ n) :
    ArB (W.setCells g o (bs.map fun x : Nat => Value.int .u8 (x : Int))) g te n (put f o bs) := by
  obtain ⟨cur, h1, h2, h3⟩ := h.ex
  obtain ⟨cs', h4, h5⟩ := heap_setCells (bs.map fun x : Nat => Value.int .u8 (x : Int)) o W cur h1
  refine ⟨⟨cs', h4, h5.trans h2, fun j hj => ?_⟩, h.mx, fun j => ?_⟩
  · have hj' : j < cs'.size := by omega
    have e0 := cells_cell (i := j) (v := cs'[j]) h4 (by simp [hj'])
    rw [Array.getElem?_eq_getElem hj']
    unfold put
    by_cases hin : o ≤ j ∧ j < o + bs.length
    · rw [if_pos hin]
      have hin' := World.cell?_setCells_in g (bs.map fun x : Nat => Value.int .u8 (x : Int)) o W (fun i hi => by
        have hi' : o + i < cur.size := by simp at hi; omega
        rw [cells_cell (v := cur[o + i]) h1 (by simp [hi'])]; rfl) (j - o) (by simp; omega)
      rw [show o + (j - o) = j by omega, e0] at hin'
      rw [Option.some.inj hin']
      simp [List.getD, show j - o < bs.length by omega]
    · rw [if_neg hin]
      have hout := World.cell?_setCells_out g (bs.map fun x : Nat => Value.int .u8 (x : Int)) o W ⟨g, j, none⟩ (fun _ _ => by simp; omega)
      rw [e0, cells_cell h1 (h3 j hj)] at hout
      exact hout
  · show (if o ≤ j ∧ j < o + bs.length then bs.getD (j - o) 0 else f j) < 256
    split
    · rename_i hj
      rw [List.getD_eq_getElem?_getD, List.getElem?_eq_getElem (show j - o < bs.length by omega)]
      exact hb _ (List.getElem_mem _)
    · exact h.by8 j

theorem ArB.made (w : World) (te : TypeId) (n : Nat) (hn : n ≤ 1000000) : ArB (w.alloc (.cells (madeCells #[.int .u8 0] n) te)) w.heap.size te n (fun _ => 0) := by
  refine ⟨⟨_, World.alloc_heap_new w _, size_madeCells _ _, fun j hj => ?_⟩, hn, fun j => (by show (0 : Nat) < 256; decide)⟩
  simp [madeCells, hj, Nat.mod_one]
end Go.Proofs.YtjoghbpekpgkpaaDoor

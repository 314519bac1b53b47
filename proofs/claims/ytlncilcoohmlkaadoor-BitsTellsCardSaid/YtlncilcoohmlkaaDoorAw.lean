/- An array of words that the call has laid and stores into. -/
import Derived.Test.YtlncilcoohmlkaaDoorU1
namespace Go.Proofs.YtlncilcoohmlkaaDoor
open Go Go.RowKit

/-- Block g holds n words f 0, f 1, .. (and room for cap). -/
structure ArW (W : World) (g cap : Nat) (te : TypeId) (n : Nat) (f : Nat → Nat) : Prop where
  ex : ∃ cur, W.heap[g]? = some (.cells cur te (0, 0)) ∧ cur.size = cap ∧ ∀ j, j < n → cur[j]? = some (.int .u32 ((f j : Nat) : Int))
  le : n ≤ cap
  mx : cap ≤ 9223372036854775807

theorem ArW.lt {W : World} {g cap : Nat} {te : TypeId} {n : Nat} {f : Nat → Nat} (h : ArW W g cap te n f) : g < W.heap.size := by
  obtain ⟨cur, h1, _⟩ := h.ex
  exact block_lt h1
theorem ArW.cell {W : World} {g cap : Nat} {te : TypeId} {n : Nat} {f : Nat → Nat} (h : ArW W g cap te n f) (j : Nat) (hj : j < n) : W.cell? ⟨g, j, none⟩ = some (.int .u32 ((f j : Nat) : Int)) := by
  obtain ⟨cur, h1, _, h2⟩ := h.ex
  exact cells_cell h1 (h2 j hj)
theorem ArW.free {W : World} {g cap : Nat} {te : TypeId} {n : Nat} {f : Nat → Nat} (h : ArW W g cap te n f) (j : Nat) : W.frozen? ⟨g, j, none⟩ = false := by
  obtain ⟨cur, h1, _, h2⟩ := h.ex
  exact cells_free h1
theorem ArW.next {W W' : World} {g cap : Nat} {te : TypeId} {n : Nat} {f : Nat → Nat} (h : ArW W g cap te n f) (hb : Below W.heap.size W W') : ArW W' g cap te n f := by
  obtain ⟨cur, h1, h2⟩ := h.ex
  exact ⟨⟨cur, (hb.block _ (block_lt h1)).trans h1, h2⟩, h.le, h.mx⟩
theorem ArW.set {W : World} {g cap : Nat} {te : TypeId} {n : Nat} {f : Nat → Nat} (h : ArW W g cap te n f) (i : Nat) (v : Nat) (hi : i < n) : ArW (W.setCell ⟨g, i, none⟩ (.int .u32 ((v : Nat) : Int))) g cap te n (fun j => if j = i then v else f j) := by
  obtain ⟨cur, h1, h2, h3⟩ := h.ex
  have hle := h.le
  refine ⟨⟨cur.setIfInBounds i (.int .u32 ((v : Nat) : Int)), heap_setCell_same _ h1, by simpa using h2, fun j hj => ?_⟩, h.le, h.mx⟩
  by_cases e : j = i
  · subst e
    rw [Array.getElem?_setIfInBounds_self]
    simp only [if_true]
    rw [if_pos (by omega)]
  · rw [Array.getElem?_setIfInBounds_ne (fun e' => e e'.symm), if_neg e]
    exact h3 j hj
theorem ArW.congr {W : World} {g cap : Nat} {te : TypeId} {n : Nat} {f f' : Nat → Nat} (h : ArW W g cap te n f) (he : ∀ j, j < n → f j = f' j) : ArW W g cap te n f' := by
  obtain ⟨cur, h1, h2, h3⟩ := h.ex
  exact ⟨⟨cur, h1, h2, fun j hj => by rw [← he j hj]; exact h3 j hj⟩, h.le, h.mx⟩
theorem ArW.words {W : World} {g cap : Nat} {te : TypeId} {n : Nat} {f : Nat → Nat} (h : ArW W g cap te n f) (l : List Nat) (hl : l.length = n) (hw : ∀ i, l.getD i 0 < 4294967296) (he : ∀ j, j < n → f j = l.getD j 0) : WordsV W (.slice (some ⟨g, 0, none⟩) n cap) l := by
  subst hl
  exact .some g 0 cap l h.le h.mx hw fun i hi => by rw [Nat.zero_add, ← he i hi]; exact h.cell i hi
theorem ArW.of_row {W : World} {base : Nat} {e : TypeId} {v : Value} {xs : List Nat} (h : W.ownsRow base e 1 v xs.length (xs.map fun x : Nat => Value.int .u32 (x : Int))) (h0 : 0 < xs.length) :
    ∃ g cap, v = .slice (some ⟨g, 0, none⟩) xs.length cap ∧ base ≤ g ∧ ArW W g cap e xs.length (fun j => xs.getD j 0) := by
  rcases h.2 with ⟨rfl, h0'⟩ | ⟨g, cap, cur, rfl, hbg, hg, h1, h2, h3, h4⟩
  · omega
  · refine ⟨g, cap, rfl, hbg, ⟨cur, hg, by simpa using h3, fun i hi => ?_⟩, h1, by unfold maxLen at h2; omega⟩
    have h5 : (cur.toList.take (xs.length * 1))[i]? = some (Value.int .u32 ((xs.getD i 0 : Nat) : Int)) := by rw [h4]; simp [List.getD_eq_getElem?_getD, hi]
    rw [List.getElem?_take] at h5
    rw [if_pos (by omega)] at h5
    simpa using h5
theorem ArW.made {W : World} {g cap n : Nat} {te : TypeId} {cur : Array Value} (h1 : W.heap[g]? = some (.cells cur te (0, 0))) (h2 : cur.size = cap) {f : Nat → Nat} (h3 : ∀ j, j < n → cur[j]? = some (.int .u32 ((f j : Nat) : Int))) (hle : n ≤ cap) (hm : cap ≤ 9223372036854775807) : ArW W g cap te n f := ⟨⟨cur, h1, h2, h3⟩, hle, hm⟩
end Go.Proofs.YtlncilcoohmlkaaDoor

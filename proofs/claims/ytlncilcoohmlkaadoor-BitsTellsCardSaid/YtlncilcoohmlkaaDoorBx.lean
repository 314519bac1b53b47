/- Layer bits: bits stored in a box. -/
import Derived.Test.YtlncilcoohmlkaaDoorU9
namespace Go.Proofs.YtlncilcoohmlkaaDoor
open Go Go.RowKit

theorem cell_none {w : World} {B k : Nat} {x y : Value} {t : TypeId} (h : w.heap[B]? = some (.cells #[x, y] t (0, 0))) : w.cell? ⟨B, k + 2, none⟩ = none := by
  simp [World.cell?, h]

theorem WordsV.box {w : World} {v : Value} {ws : List Nat} (h : WordsV w v ws) {B : Nat} {n : Int} {a : Option Addr} {l c : Nat} {t : TypeId} (hb : w.heap[B]? = Option.some (.cells #[.int .i64 n, .slice a l c] t (0, 0))) (i : Nat) (x : Value) :
    WordsV (w.setCell ⟨B, i, none⟩ x) v ws := by
  cases h with
  | empty a cap => exact .empty a cap
  | some b off cap ws hl hm hw hc =>
    refine .some b off cap ws hl hm hw fun j hj => ?_
    have hne : b ≠ B := by
      rintro rfl
      have h1 := hc j hj
      match hk : off + j with
      | 0 => rw [hk, cells_cell (i := 0) hb (v := .int .i64 n) rfl] at h1; simp at h1
      | 1 => rw [hk, cells_cell (i := 1) hb (v := .slice a l c) rfl] at h1; simp at h1
      | k + 2 => rw [hk, cell_none hb] at h1; simp at h1
    have h2 : (w.setCell ⟨B, i, none⟩ x).heap[b]? = w.heap[b]? := Below.heap_setCell w ⟨B, i, none⟩ x b hne
    have h3 := hc j hj
    unfold World.cell? at h3 ⊢
    rw [h2]
    exact h3

theorem rebox {E : Env2} {w w3 : World} {B : Nat} {n : Int} {a : Option Addr} {l c : Nat} {t : TypeId} (hG : Glob2 E w) (hb : Below w.heap.size w w3) (hB : w.heap.size ≤ B) (b1 : w3.heap[B]? = some (.cells #[.int .i64 n, .slice a l c] t (0, 0)))
    (n' : Int) (a' : Option Addr) (l' c' : Nat) : ∃ w4, (w3.setCell ⟨B, 0, none⟩ (.int .i64 n')).setCell ⟨B, 1, none⟩ (.slice a' l' c') = w4 ∧ Below w.heap.size w w4 ∧ Glob2 E w4 ∧ (∀ v ws, WordsV w3 v ws → WordsV w4 v ws) ∧
      w4.heap[B]? = some (.cells #[.int .i64 n', .slice a' l' c'] t (0, 0)) ∧ ∀ j, j ≠ B → w4.heap[j]? = w3.heap[j]? := by
  have hbb := (hb.setCell (p := ⟨B, 0, none⟩) hB (.int .i64 n')).setCell (p := ⟨B, 1, none⟩) hB (.slice a' l' c')
  have b2 := heap_setCell_same (i := 0) (.int .i64 n') b1
  change (w3.setCell ⟨B, 0, none⟩ (.int .i64 n')).heap[B]? = some (.cells #[.int .i64 n', .slice a l c] t (0, 0)) at b2
  have b3 := heap_setCell_same (i := 1) (.slice a' l' c') b2
  refine ⟨_, rfl, hbb, hG.below hbb, fun v ws h => (h.box b1 0 _).box b2 1 _, b3, fun j hj => ?_⟩
  rw [Below.heap_setCell _ ⟨B, 1, none⟩ _ j hj, Below.heap_setCell _ ⟨B, 0, none⟩ _ j hj]
end Go.Proofs.YtlncilcoohmlkaaDoor

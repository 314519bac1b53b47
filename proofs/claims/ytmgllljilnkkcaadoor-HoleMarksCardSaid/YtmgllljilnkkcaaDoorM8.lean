/- Layer marks: contracts at any list; the statements' examples. -/
import Derived.Test.YtmgllljilnkkcaaDoorM7
import Derived.Test.YtmgllljilnkkcaaDoorIn
namespace Go.Proofs.YtmgllljilnkkcaaDoor
open Go Go.RowKit

/-- What Mark answers: the number of its error; its table. -/
def markE (l : List Int) (a n : Int) : Int := bif rightT l then bif extB a n then 0 else 11 else 70
def markL (l : List Int) (a n : Int) : List Int := bif rightT l && extB a n then markT l a n else []
def mergeE (l m : List Int) : Int := bif rightT l && rightT m then 0 else 70
def mergeL (l m : List Int) : List Int := bif rightT l && rightT m then mergeT l m else []

theorem mark_any {E : Env7} {w : World} (h : Glob7 E w) {v : Value} {l : List Int} (hv : IntsV w v l) (a n : Int) :
    Calls Tryd.prog 6 #[v, .int .i64 a, .int .i64 n] w fun r w' => (∃ v', r = .returned (.tuple #[v', .int .i64 (markE l a n)]) ∧ IntsV w' v' (markL l a n)) ∧ Below w.heap.size w w' := by
  unfold markE markL
  cases hr : rightT l with
  | false => exact (mark_no1 h hv hr a n).mono fun r w' ⟨he, hb⟩ => ⟨⟨_, he, .empty none 0⟩, hb⟩
  | true =>
    cases hx : extB a n with
    | false => exact (mark_no2 h hv hr a n hx).mono fun r w' ⟨he, hb⟩ => ⟨⟨_, he, .empty none 0⟩, hb⟩
    | true => exact mark_yes h hv hr a n hx

/-! the examples -/
theorem lit2 (w : World) (x y : Int) (t : TypeId) : IntsV (w.alloc (.cells #[.int .i64 x, .int .i64 y] t)) (.slice (some ⟨w.heap.size, 0, none⟩) 2 2) [x, y] := by
  refine .some _ 0 2 [x, y] (by simp) (by decide) fun i hi => ?_
  rw [Nat.zero_add]
  refine cells_cell (World.alloc_heap_new w _) ?_
  have : i = 0 ∨ i = 1 := by simp at hi; omega
  rcases this with rfl | rfl <;> rfl
theorem lit3 (w : World) (x y z : Int) (t : TypeId) : IntsV (w.alloc (.cells #[.int .i64 x, .int .i64 y, .int .i64 z] t)) (.slice (some ⟨w.heap.size, 0, none⟩) 3 3) [x, y, z] := by
  refine .some _ 0 3 [x, y, z] (by simp) (by decide) fun i hi => ?_
  rw [Nat.zero_add]
  refine cells_cell (World.alloc_heap_new w _) ?_
  have : i = 0 ∨ i = 1 ∨ i = 2 := by simp at hi; omega
  rcases this with rfl | rfl | rfl <;> rfl

theorem ex1 : linesI (markL (List.replicate 32 0) 120 40) = [0, 1] := by decide +kernel
theorem ex2 : linesI (markL (List.replicate 32 0) 256 300) = [2, 3, 4] := by decide +kernel
theorem ex3 : markE (List.replicate 32 0) 120 40 = 0 := by decide +kernel
theorem ex4 : markE (List.replicate 32 0) 256 300 = 0 := by decide +kernel
theorem ex5 : markE (List.replicate 32 0) 4 8 = 11 := by decide +kernel
theorem ex6 : markE [] 0 8 = 70 := by decide +kernel

end Go.Proofs.YtmgllljilnkkcaaDoor

/- Layer marks: contracts at any list; the statements' examples. -/
import Derived.Test.YteilnojniilmaaaDoorM7
import Derived.Test.YteilnojniilmaaaDoorIn
namespace Go.Proofs.YteilnojniilmaaaDoor
open Go Go.RowKit

/-- What Mark answers: the number of its error; its table. -/
def markE (l : List Int) (a n : Int) : Int := bif rightT l then bif extB a n then 0 else 11 else 70
def markL (l : List Int) (a n : Int) : List Int := bif rightT l && extB a n then markT l a n else []
def mergeE (l m : List Int) : Int := bif rightT l && rightT m then 0 else 70
def mergeL (l m : List Int) : List Int := bif rightT l && rightT m then mergeT l m else []

theorem mark_any {E : Env7} {w : World} (h : Glob7 E w) {v : Value} {l : List Int} (hv : IntsV w v l) (a n : Int) :
    Calls Tryd.prog 11 #[v, .int .i64 a, .int .i64 n] w fun r w' => (∃ v', r = .returned (.tuple #[v', .int .i64 (markE l a n)]) ∧ IntsV w' v' (markL l a n)) ∧ Below w.heap.size w w' := by
  unfold markE markL
  cases hr : rightT l with
  | false => exact (mark_no1 h hv hr a n).mono fun r w' ⟨he, hb⟩ => ⟨⟨_, he, .empty none 0⟩, hb⟩
  | true =>
    cases hx : extB a n with
    | false => exact (mark_no2 h hv hr a n hx).mono fun r w' ⟨he, hb⟩ => ⟨⟨_, he, .empty none 0⟩, hb⟩
    | true => exact mark_yes h hv hr a n hx

theorem merge_any {E : Env7} {w : World} (h : Glob7 E w) {v u : Value} {l m : List Int} (hv : IntsV w v l) (hu : IntsV w u m) :
    Calls Tryd.prog 20 #[v, u] w fun r w' => (∃ v', r = .returned (.tuple #[v', .int .i64 (mergeE l m)]) ∧ IntsV w' v' (mergeL l m)) ∧ Below w.heap.size w w' := by
  unfold mergeE mergeL
  cases hr : (rightT l && rightT m) with
  | false => exact (merge_no h hv hu hr).mono fun r w' ⟨he, hb⟩ => ⟨⟨_, he, .empty none 0⟩, hb⟩
  | true =>
    have h2 : rightT l = true ∧ rightT m = true := by simpa using hr
    exact merge_yes hv hu h2.1 h2.2

/-! the examples -/
theorem lit2 (w : World) (x y : Int) (t : TypeId) : IntsV (w.alloc (.cells #[.int .i64 x, .int .i64 y] t)) (.slice (some ⟨w.heap.size, 0, none⟩) 2 2) [x, y] := by
  refine .some _ 0 2 [x, y] (by simp) (by decide) fun i hi => ?_
  rw [Nat.zero_add]
  refine cells_cell (World.alloc_heap_new w _) ?_
  have : i = 0 ∨ i = 1 := by simp at hi; omega
  rcases this with rfl | rfl <;> rfl
theorem lit3 (w : World) (x y z : Int) (t : TypeId) : IntsV (w.alloc (.cells #[.int .i64 x, .int .i64 y, .int .i64 z] t)) (.slice (some ⟨w.heap.size, 0, none⟩) 3 3) [x, y, z] := by
  refine .some _ 0 3 [x, y, z] (by simp) (by decide) fun i hi => ?_
  rw [Nat.zero_add]
  refine cells_cell (World.alloc_heap_new w _) ?_
  have : i = 0 ∨ i = 1 ∨ i = 2 := by simp at hi; omega
  rcases this with rfl | rfl | rfl <;> rfl

theorem ex1 : linesI (markL (List.replicate 32 0) 120 40) = [0, 1] := by decide +kernel
theorem ex2 : linesI (markL (List.replicate 32 0) 256 300) = [2, 3, 4] := by decide +kernel
theorem ex3 : markE (List.replicate 32 0) 120 40 = 0 := by decide +kernel
theorem ex4 : markE (List.replicate 32 0) 256 300 = 0 := by decide +kernel
theorem ex5 : markE (List.replicate 32 0) 4 8 = 11 := by decide +kernel
theorem ex6 : markE [] 0 8 = 70 := by decide +kernel

set_option maxHeartbeats 2000000 in
set_option maxRecDepth 20000 in
theorem shown_any {E : Env7} {w : World} (hGl : Glob7 E w) : Calls Tryd.prog 9 #[] w fun r w' => r = .returned (.bool true) ∧ Below w.heap.size w w' := by
  have hb : Below w.heap.size w w := Below.refl _ _
  go_enter Tryd.func9, Tryd.ntmps9
  go_wp2_with fail
  refine (make_any w).mono ?_
  rintro r w1 ⟨⟨v1, rfl, h1⟩, hb1⟩
  replace hGl := hGl.below hb1
  replace hb := hb.trans (hb1.mono hb.size)
  clear hb1
  have m1 := mark_any hGl h1 120 40
  rw [ex3] at m1
  go_wp2_with fail
  refine (m1).mono ?_
  rintro r w2 ⟨⟨v2, rfl, h2⟩, hb2⟩
  replace hGl := hGl.below hb2
  replace hb := hb.trans (hb2.mono hb.size)
  clear hb2
  clear m1 h1
  go_wp2_with fail
  refine (make_any w2).mono ?_
  rintro r w3 ⟨⟨v3, rfl, h3⟩, hb3⟩
  replace hGl := hGl.below hb3
  replace h2 := h2.below hb3
  replace hb := hb.trans (hb3.mono hb.size)
  clear hb3
  have m1 := mark_any hGl h3 256 300
  rw [ex4] at m1
  go_wp2_with fail
  refine (m1).mono ?_
  rintro r w4 ⟨⟨v4, rfl, h4⟩, hb4⟩
  replace hGl := hGl.below hb4
  replace h2 := h2.below hb4
  replace hb := hb.trans (hb4.mono hb.size)
  clear hb4
  clear m1 h3
  go_wp2_with fail
  refine (make_any w4).mono ?_
  rintro r w5 ⟨⟨v5, rfl, h5⟩, hb5⟩
  replace hGl := hGl.below hb5
  replace h2 := h2.below hb5
  replace h4 := h4.below hb5
  replace hb := hb.trans (hb5.mono hb.size)
  clear hb5
  have m1 := mark_any hGl h5 4 8
  rw [ex5] at m1
  go_wp2_with fail
  refine (m1).mono ?_
  rintro r w6 ⟨⟨v6, rfl, h6⟩, hb6⟩
  replace hGl := hGl.below hb6
  replace h2 := h2.below hb6
  replace h4 := h4.below hb6
  replace hb := hb.trans (hb6.mono hb.size)
  clear hb6
  clear m1 h5 h6
  have m1 := mark_any hGl (.empty none 0) 0 8
  rw [ex6] at m1
  go_wp2_with fail
  refine (m1).mono ?_
  rintro r w7 ⟨⟨v7, rfl, h7⟩, hb7⟩
  replace hGl := hGl.below hb7
  replace h2 := h2.below hb7
  replace h4 := h4.below hb7
  replace hb := hb.trans (hb7.mono hb.size)
  clear hb7
  clear m1 h7
  have m1 := lines_any h2
  rw [ex1] at m1
  go_wp2_with fail
  refine (m1).mono ?_
  rintro r w8 ⟨⟨v8, rfl, h8⟩, hb8⟩
  replace hGl := hGl.below hb8
  replace h4 := h4.below hb8
  replace hb := hb.trans (hb8.mono hb.size)
  clear hb8
  clear m1 h2
  have e9 := (Below.refl w8.heap.size w8).alloc (Nat.le_refl _) (.cells #[.int .i64 0, .int .i64 1] 3)
  have m1 := ints_any (h8.below e9) (lit2 w8 0 1 3)
  replace hGl := hGl.below e9
  replace h4 := h4.below e9
  replace hb := hb.trans (e9.mono hb.size)
  clear e9 h8
  go_wp2_with fail
  refine (m1).mono ?_
  rintro r w9 ⟨rfl, hb9⟩
  replace hGl := hGl.below hb9
  replace h4 := h4.below hb9
  replace hb := hb.trans (hb9.mono hb.size)
  clear hb9
  clear m1
  have m1 := lines_any h4
  rw [ex2] at m1
  go_wp2_with fail
  refine (m1).mono ?_
  rintro r w10 ⟨⟨v10, rfl, h10⟩, hb10⟩
  replace hGl := hGl.below hb10
  replace h4 := h4.below hb10
  replace hb := hb.trans (hb10.mono hb.size)
  clear hb10
  clear m1
  have e9 := (Below.refl w10.heap.size w10).alloc (Nat.le_refl _) (.cells #[.int .i64 2, .int .i64 3, .int .i64 4] 3)
  have m1 := ints_any (h10.below e9) (lit3 w10 2 3 4 3)
  replace hGl := hGl.below e9
  replace h4 := h4.below e9
  replace hb := hb.trans (e9.mono hb.size)
  clear e9 h10
  go_wp2_with fail
  refine (m1).mono ?_
  rintro r w11 ⟨rfl, hb11⟩
  replace hGl := hGl.below hb11
  replace h4 := h4.below hb11
  replace hb := hb.trans (hb11.mono hb.size)
  clear hb11
  clear m1
  have m1 := count_any h4
  rw [ex2] at m1
  go_wp2_with fail
  refine (m1).mono ?_
  rintro r w12 ⟨rfl, hb12⟩
  replace hGl := hGl.below hb12
  replace hb := hb.trans (hb12.mono hb.size)
  clear hb12
  clear m1
  go_wp2
  go_ret
  exact ⟨rfl, hb⟩
end Go.Proofs.YteilnojniilmaaaDoor

/- Layer marks: the package's errors; extents. -/
import Derived.Test.YtmgllljilnkkcaaDoorA5c
import Derived.Test.YtmgllljilnkkcaaDoorGv
import Derived.Laws.ResultCell
namespace Go.Proofs.YtmgllljilnkkcaaDoor
open Go.RowKit
attribute [local go_sem ↓] Go.wp_at_zero Go.wp_at_succ

structure Env7 where
  base : Env
  aTab : Addr
  aSiz : Addr

/-- The variables of addr and of marks, as the call finds them. -/
structure Glob7 (E : Env7) (w : World) : Prop where
  base : Glob E.base w
  cTab : w.cell? ⟨0, 0, none⟩ = some (.iface 103 (.pointer (some E.aTab)))
  cSiz : w.cell? ⟨1, 0, none⟩ = some (.iface 103 (.pointer (some E.aSiz)))
  bTab : ∃ ca ta, w.heap[E.aTab.block]? = some (.cells ca ta (0, 0))
  bSiz : ∃ ca ta, w.heap[E.aSiz.block]? = some (.cells ca ta (0, 0))
  ne : E.aTab ≠ E.aSiz

theorem Glob7.below {E : Env7} {w w' : World} (h : Glob7 E w) (hb : Below w.heap.size w w') : Glob7 E w' := by
  have hs := h.base.size
  have c : ∀ g o, g < 6 → w'.cell? ⟨g, o, none⟩ = w.cell? ⟨g, o, none⟩ := fun g o hg => hb.cell (p := ⟨g, o, none⟩) (by simp; omega)
  have k : ∀ {n : Nat}, (∃ ca ta, w.heap[n]? = some (.cells ca ta (0, 0))) → ∃ ca ta, w'.heap[n]? = some (.cells ca ta (0, 0)) := fun ⟨ca, ta, e⟩ => ⟨ca, ta, (hb.block _ (block_lt e)).trans e⟩
  exact ⟨h.base.below hb, (c _ _ (by decide)).trans h.cTab, (c _ _ (by decide)).trans h.cSiz, k h.bTab, k h.bSiz, h.ne⟩

theorem toldTab {E : Env7} {w : World} (h : Glob7 E w) : Calls Tryd.prog 16 #[.iface 103 (.pointer (some E.aTab))] w fun r w' => r = .returned (.int .i64 70) ∧ w = w' := by
  have k0 := h.cTab
  have I := is_same E.aTab w
  clear h
  go_enter Tryd.func16, Tryd.ntmps16
  go_wp2_with fail
  refine I.mono ?_
  rintro r w' ⟨rfl, rfl⟩
  go_wp2
  go_ret
  exact ⟨rfl, rfl⟩
theorem toldSiz {E : Env7} {w : World} (h : Glob7 E w) : Calls Tryd.prog 16 #[.iface 103 (.pointer (some E.aSiz))] w fun r w' => r = .returned (.int .i64 11) ∧ w = w' := by
  have k0 := h.cTab
  have k1 := h.cSiz
  obtain ⟨c0, t0, b0⟩ := h.bTab
  obtain ⟨c1, t1, b1⟩ := h.bSiz
  have I := is_other _ _ _ _ _ _ w h.ne.symm b1 b0
  have I2 := is_same E.aSiz w
  clear h b0 b1
  go_enter Tryd.func16, Tryd.ntmps16
  go_wp2_with fail
  refine I.mono ?_
  rintro r w' ⟨rfl, rfl⟩
  go_wp2_with fail
  refine I2.mono ?_
  rintro r w' ⟨rfl, rfl⟩
  go_wp2
  go_ret
  exact ⟨rfl, rfl⟩

/-- Is an extent right? -/
def extB (a n : Int) : Bool := decide (0 ≤ a) && decide (a % 8 = 0) && decide (1 ≤ n) && decide (n ≤ 2048) && decide (a + n ≤ 4096)
theorem extB_iff (a n : Int) : extB a n = true ↔ 0 ≤ a ∧ a % 8 = 0 ∧ 1 ≤ n ∧ n ≤ 2048 ∧ a + n ≤ 4096 := by
  unfold extB; simp [and_assoc]

theorem ext_yes {E : Env7} {w : World} (h : Glob7 E w) (a n : Int) (hx : extB a n = true) :
    Calls Tryd.prog 17 #[.int .i64 a, .int .i64 n] w fun r w' => r = .returned (.tuple #[.agg #[.int .i64 a, .int .i64 n, .int .i64 (classOf n)], .nilIface]) ∧ Below w.heap.size w w' := by
  obtain ⟨h1, h2, h3, h4, h5⟩ := (extB_iff a n).1 hx
  obtain ⟨W0, hW0, e0, e1', e2'⟩ := allocs1 w (.cells #[.int .i64 0, .int .i64 0, .int .i64 0] 44)
  have C := class_yes (h.below e0).base n h3 (by omega)
  have e1 : (classOf n == 3) = false := by unfold classOf; simp; split <;> (try split) <;> omega
  have e2 : Int.tmod a 8 = 0 := by rw [Int.tmod_eq_emod_of_nonneg h1]; exact h2
  have e3 : ¬ a > 4096 - n := by omega
  clear hx
  generalize classOf n = c at *
  go_enter Tryd.func17, Tryd.ntmps17
  go_wp2_with fail

  refine C.mono ?_
  rintro r w1 ⟨rfl, hb⟩
  have hx1 := (hb.block _ (block_lt e2')).trans e2'
  have hb1 := e0.trans (hb.mono e0.size)
  have hx2 := heap_setCell_same (i := 0) (.int .i64 a) hx1
  have hx3 := heap_setCell_same (i := 1) (.int .i64 n) hx2
  have hx4 := heap_setCell_same (i := 2) (.int .i64 c) hx3
  have c0 := cells_cell (i := 0) hx1 (v := .int .i64 0) rfl
  have c1 := cells_cell (i := 1) hx2 (v := .int .i64 0) rfl
  have c2 := cells_cell (i := 2) hx3 (v := .int .i64 0) rfl
  have f0 := cells_free (i := 0) hx1
  have f1 := cells_free (i := 1) hx2
  have f2 := cells_free (i := 2) hx3
  have d0 := cells_cell (i := 0) hx4 (v := .int .i64 a) rfl
  have d1 := cells_cell (i := 1) hx4 (v := .int .i64 n) rfl
  have d2 := cells_cell (i := 2) hx4 (v := .int .i64 c) rfl
  have hb2 : Below w.heap.size w (((w1.setCell ⟨w.heap.size, 0, none⟩ (.int .i64 a)).setCell ⟨w.heap.size, 1, none⟩ (.int .i64 n)).setCell ⟨w.heap.size, 2, none⟩ (.int .i64 c)) := ((hb1.setCell (p := ⟨w.heap.size, 0, none⟩) (Nat.le_refl _) _).setCell (p := ⟨w.heap.size, 1, none⟩) (Nat.le_refl _) _).setCell (p := ⟨w.heap.size, 2, none⟩) (Nat.le_refl _) _
  clear hx1 hx2 hx3 hx4 h e2' hb hb1 e0
  clear C hW0
  go_wp2
  refine bodyPost_ret ?_ rfl ⟨rfl, hb2⟩
  rw [results_cell_tmp rfl]
  generalize ((w1.setCell ⟨w.heap.size, 0, none⟩ (.int .i64 a)).setCell ⟨w.heap.size, 1, none⟩ (.int .i64 n)).setCell ⟨w.heap.size, 2, none⟩ (.int .i64 c) = W at *
  go_simp

set_option maxHeartbeats 1000000 in
theorem ext_no1 {E : Env7} {w : World} (h : Glob7 E w) (a n : Int) (hn : ¬(1 ≤ n ∧ n ≤ 131072)) :
    Calls Tryd.prog 17 #[.int .i64 a, .int .i64 n] w fun r w' => r = .returned (.tuple #[.agg #[.int .i64 0, .int .i64 0, .int .i64 0], .iface 103 (.pointer (some E.aSiz))]) ∧ Below w.heap.size w w' := by
  obtain ⟨W0, hW0, e0, e1', e2'⟩ := allocs1 w (.cells #[.int .i64 0, .int .i64 0, .int .i64 0] 44)
  have C := class_no (h.below e0).base n hn
  clear hn
  go_enter Tryd.func17, Tryd.ntmps17
  go_wp2_with fail
  refine C.mono ?_
  rintro r w1 ⟨rfl, hb⟩
  have hx1 := (hb.block _ (block_lt e2')).trans e2'
  have hb1 := e0.trans (hb.mono e0.size)
  have k1 := (h.below hb1).cSiz
  have k2 := (h.below (hb1.setCell (p := ⟨w.heap.size, 0, none⟩) (Nat.le_refl _) (.int .i64 0))).cSiz
  have hx2 := heap_setCell_same (i := 0) (.int .i64 0) hx1
  have hx3 := heap_setCell_same (i := 1) (.int .i64 0) hx2
  have hx4 := heap_setCell_same (i := 2) (.int .i64 0) hx3
  have c0 := cells_cell (i := 0) hx1 (v := .int .i64 0) rfl
  have c1 := cells_cell (i := 1) hx2 (v := .int .i64 0) rfl
  have c2 := cells_cell (i := 2) hx3 (v := .int .i64 0) rfl
  have f0 := cells_free (i := 0) hx1
  have f1 := cells_free (i := 1) hx2
  have f2 := cells_free (i := 2) hx3
  have d0 := cells_cell (i := 0) hx4 (v := .int .i64 0) rfl
  have d1 := cells_cell (i := 1) hx4 (v := .int .i64 0) rfl
  have d2 := cells_cell (i := 2) hx4 (v := .int .i64 0) rfl
  have hb2 : Below w.heap.size w (((w1.setCell ⟨w.heap.size, 0, none⟩ (.int .i64 0)).setCell ⟨w.heap.size, 1, none⟩ (.int .i64 0)).setCell ⟨w.heap.size, 2, none⟩ (.int .i64 0)) := ((hb1.setCell (p := ⟨w.heap.size, 0, none⟩) (Nat.le_refl _) _).setCell (p := ⟨w.heap.size, 1, none⟩) (Nat.le_refl _) _).setCell (p := ⟨w.heap.size, 2, none⟩) (Nat.le_refl _) _
  clear hx1 hx2 hx3 hx4 h e2' hb hb1 e0 C hW0
  go_wp2
  go_region
  go_wp2
  refine bodyPost_ret ?_ rfl ⟨rfl, hb2.drew⟩
  rw [results_cell_tmp rfl]
  clear k1 k2
  generalize ((w1.setCell ⟨w.heap.size, 0, none⟩ (.int .i64 0)).setCell ⟨w.heap.size, 1, none⟩ (.int .i64 0)).setCell ⟨w.heap.size, 2, none⟩ (.int .i64 0) = W at *
  go_simp

set_option maxHeartbeats 1000000 in
theorem ext_no2 {E : Env7} {w : World} (h : Glob7 E w) (a n : Int) (h3 : 1 ≤ n) (h4 : n ≤ 131072) (h5 : 2048 < n) :
    Calls Tryd.prog 17 #[.int .i64 a, .int .i64 n] w fun r w' => r = .returned (.tuple #[.agg #[.int .i64 0, .int .i64 0, .int .i64 0], .iface 103 (.pointer (some E.aSiz))]) ∧ Below w.heap.size w w' := by
  obtain ⟨W0, hW0, e0, e1', e2'⟩ := allocs1 w (.cells #[.int .i64 0, .int .i64 0, .int .i64 0] 44)
  have C := class_yes (h.below e0).base n h3 (by omega)
  have e1 : classOf n = 3 := by unfold classOf; rw [if_neg (by omega), if_neg (by omega)]
  rw [e1] at C
  clear e1
  go_enter Tryd.func17, Tryd.ntmps17
  go_wp2_with fail
  refine C.mono ?_
  rintro r w1 ⟨rfl, hb⟩
  have hx1 := (hb.block _ (block_lt e2')).trans e2'
  have hb1 := e0.trans (hb.mono e0.size)
  have k1 := (h.below hb1).cSiz
  have k2 := (h.below (hb1.setCell (p := ⟨w.heap.size, 0, none⟩) (Nat.le_refl _) (.int .i64 0))).cSiz
  have hx2 := heap_setCell_same (i := 0) (.int .i64 0) hx1
  have hx3 := heap_setCell_same (i := 1) (.int .i64 0) hx2
  have hx4 := heap_setCell_same (i := 2) (.int .i64 0) hx3
  have c0 := cells_cell (i := 0) hx1 (v := .int .i64 0) rfl
  have c1 := cells_cell (i := 1) hx2 (v := .int .i64 0) rfl
  have c2 := cells_cell (i := 2) hx3 (v := .int .i64 0) rfl
  have f0 := cells_free (i := 0) hx1
  have f1 := cells_free (i := 1) hx2
  have f2 := cells_free (i := 2) hx3
  have d0 := cells_cell (i := 0) hx4 (v := .int .i64 0) rfl
  have d1 := cells_cell (i := 1) hx4 (v := .int .i64 0) rfl
  have d2 := cells_cell (i := 2) hx4 (v := .int .i64 0) rfl
  have hb2 : Below w.heap.size w (((w1.setCell ⟨w.heap.size, 0, none⟩ (.int .i64 0)).setCell ⟨w.heap.size, 1, none⟩ (.int .i64 0)).setCell ⟨w.heap.size, 2, none⟩ (.int .i64 0)) := ((hb1.setCell (p := ⟨w.heap.size, 0, none⟩) (Nat.le_refl _) _).setCell (p := ⟨w.heap.size, 1, none⟩) (Nat.le_refl _) _).setCell (p := ⟨w.heap.size, 2, none⟩) (Nat.le_refl _) _
  clear hx1 hx2 hx3 hx4 h e2' hb hb1 e0 C hW0
  go_wp2
  go_region
  go_wp2
  refine bodyPost_ret ?_ rfl ⟨rfl, hb2.drew⟩
  rw [results_cell_tmp rfl]
  clear k1 k2
  generalize ((w1.setCell ⟨w.heap.size, 0, none⟩ (.int .i64 0)).setCell ⟨w.heap.size, 1, none⟩ (.int .i64 0)).setCell ⟨w.heap.size, 2, none⟩ (.int .i64 0) = W at *
  go_simp

set_option maxHeartbeats 1000000 in
theorem ext_no3 {E : Env7} {w : World} (h : Glob7 E w) (a n : Int) (h3 : 1 ≤ n) (h4 : n ≤ 2048) (h5 : a < 0) :
    Calls Tryd.prog 17 #[.int .i64 a, .int .i64 n] w fun r w' => r = .returned (.tuple #[.agg #[.int .i64 0, .int .i64 0, .int .i64 0], .iface 103 (.pointer (some E.aSiz))]) ∧ Below w.heap.size w w' := by
  obtain ⟨W0, hW0, e0, e1', e2'⟩ := allocs1 w (.cells #[.int .i64 0, .int .i64 0, .int .i64 0] 44)
  have C := class_yes (h.below e0).base n h3 (by omega)
  have e1 : (classOf n == 3) = false := by unfold classOf; simp; split <;> (try split) <;> omega
  generalize classOf n = c at *
  go_enter Tryd.func17, Tryd.ntmps17
  go_wp2_with fail
  refine C.mono ?_
  rintro r w1 ⟨rfl, hb⟩
  have hx1 := (hb.block _ (block_lt e2')).trans e2'
  have hb1 := e0.trans (hb.mono e0.size)
  have k1 := (h.below hb1).cSiz
  have k2 := (h.below (hb1.setCell (p := ⟨w.heap.size, 0, none⟩) (Nat.le_refl _) (.int .i64 0))).cSiz
  have hx2 := heap_setCell_same (i := 0) (.int .i64 0) hx1
  have hx3 := heap_setCell_same (i := 1) (.int .i64 0) hx2
  have hx4 := heap_setCell_same (i := 2) (.int .i64 0) hx3
  have c0 := cells_cell (i := 0) hx1 (v := .int .i64 0) rfl
  have c1 := cells_cell (i := 1) hx2 (v := .int .i64 0) rfl
  have c2 := cells_cell (i := 2) hx3 (v := .int .i64 0) rfl
  have f0 := cells_free (i := 0) hx1
  have f1 := cells_free (i := 1) hx2
  have f2 := cells_free (i := 2) hx3
  have d0 := cells_cell (i := 0) hx4 (v := .int .i64 0) rfl
  have d1 := cells_cell (i := 1) hx4 (v := .int .i64 0) rfl
  have d2 := cells_cell (i := 2) hx4 (v := .int .i64 0) rfl
  have hb2 : Below w.heap.size w (((w1.setCell ⟨w.heap.size, 0, none⟩ (.int .i64 0)).setCell ⟨w.heap.size, 1, none⟩ (.int .i64 0)).setCell ⟨w.heap.size, 2, none⟩ (.int .i64 0)) := ((hb1.setCell (p := ⟨w.heap.size, 0, none⟩) (Nat.le_refl _) _).setCell (p := ⟨w.heap.size, 1, none⟩) (Nat.le_refl _) _).setCell (p := ⟨w.heap.size, 2, none⟩) (Nat.le_refl _) _
  clear hx1 hx2 hx3 hx4 h e2' hb hb1 e0 C hW0
  go_wp2
  go_region
  go_wp2
  refine bodyPost_ret ?_ rfl ⟨rfl, hb2.drew⟩
  rw [results_cell_tmp rfl]
  clear k1 k2
  generalize ((w1.setCell ⟨w.heap.size, 0, none⟩ (.int .i64 0)).setCell ⟨w.heap.size, 1, none⟩ (.int .i64 0)).setCell ⟨w.heap.size, 2, none⟩ (.int .i64 0) = W at *
  go_simp

set_option maxHeartbeats 1000000 in
theorem ext_no4 {E : Env7} {w : World} (h : Glob7 E w) (a n : Int) (h3 : 1 ≤ n) (h4 : n ≤ 2048) (h5 : 0 ≤ a) (h6 : a % 8 ≠ 0) :
    Calls Tryd.prog 17 #[.int .i64 a, .int .i64 n] w fun r w' => r = .returned (.tuple #[.agg #[.int .i64 0, .int .i64 0, .int .i64 0], .iface 103 (.pointer (some E.aSiz))]) ∧ Below w.heap.size w w' := by
  obtain ⟨W0, hW0, e0, e1', e2'⟩ := allocs1 w (.cells #[.int .i64 0, .int .i64 0, .int .i64 0] 44)
  have C := class_yes (h.below e0).base n h3 (by omega)
  have e1 : (classOf n == 3) = false := by unfold classOf; simp; split <;> (try split) <;> omega
  generalize classOf n = c at *
  have e2 : Int.tmod a 8 = 1 ∨ Int.tmod a 8 = 2 ∨ Int.tmod a 8 = 3 ∨ Int.tmod a 8 = 4 ∨ Int.tmod a 8 = 5 ∨ Int.tmod a 8 = 6 ∨ Int.tmod a 8 = 7 := by rw [Int.tmod_eq_emod_of_nonneg h5]; omega
  clear h6
  rcases e2 with e2 | e2 | e2 | e2 | e2 | e2 | e2
  all_goals
    go_enter Tryd.func17, Tryd.ntmps17
    go_wp2_with fail
    refine C.mono ?_
    rintro r w1 ⟨rfl, hb⟩
    have hx1 := (hb.block _ (block_lt e2')).trans e2'
    have hb1 := e0.trans (hb.mono e0.size)
    have k1 := (h.below hb1).cSiz
    have k2 := (h.below (hb1.setCell (p := ⟨w.heap.size, 0, none⟩) (Nat.le_refl _) (.int .i64 0))).cSiz
    have hx2 := heap_setCell_same (i := 0) (.int .i64 0) hx1
    have hx3 := heap_setCell_same (i := 1) (.int .i64 0) hx2
    have hx4 := heap_setCell_same (i := 2) (.int .i64 0) hx3
    have c0 := cells_cell (i := 0) hx1 (v := .int .i64 0) rfl
    have c1 := cells_cell (i := 1) hx2 (v := .int .i64 0) rfl
    have c2 := cells_cell (i := 2) hx3 (v := .int .i64 0) rfl
    have f0 := cells_free (i := 0) hx1
    have f1 := cells_free (i := 1) hx2
    have f2 := cells_free (i := 2) hx3
    have d0 := cells_cell (i := 0) hx4 (v := .int .i64 0) rfl
    have d1 := cells_cell (i := 1) hx4 (v := .int .i64 0) rfl
    have d2 := cells_cell (i := 2) hx4 (v := .int .i64 0) rfl
    have hb2 : Below w.heap.size w (((w1.setCell ⟨w.heap.size, 0, none⟩ (.int .i64 0)).setCell ⟨w.heap.size, 1, none⟩ (.int .i64 0)).setCell ⟨w.heap.size, 2, none⟩ (.int .i64 0)) := ((hb1.setCell (p := ⟨w.heap.size, 0, none⟩) (Nat.le_refl _) _).setCell (p := ⟨w.heap.size, 1, none⟩) (Nat.le_refl _) _).setCell (p := ⟨w.heap.size, 2, none⟩) (Nat.le_refl _) _
    clear hx1 hx2 hx3 hx4 h e2' hb hb1 e0 C hW0
    go_wp2
    go_region
    go_wp2
    refine bodyPost_ret ?_ rfl ⟨rfl, hb2.drew⟩
    rw [results_cell_tmp rfl]
    clear k1 k2
    generalize ((w1.setCell ⟨w.heap.size, 0, none⟩ (.int .i64 0)).setCell ⟨w.heap.size, 1, none⟩ (.int .i64 0)).setCell ⟨w.heap.size, 2, none⟩ (.int .i64 0) = W at *
    go_simp

set_option maxHeartbeats 1000000 in
theorem ext_no5 {E : Env7} {w : World} (h : Glob7 E w) (a n : Int) (h3 : 1 ≤ n) (h4 : n ≤ 2048) (h5 : 0 ≤ a) (h6 : a % 8 = 0) (h7 : 4096 < a + n) :
    Calls Tryd.prog 17 #[.int .i64 a, .int .i64 n] w fun r w' => r = .returned (.tuple #[.agg #[.int .i64 0, .int .i64 0, .int .i64 0], .iface 103 (.pointer (some E.aSiz))]) ∧ Below w.heap.size w w' := by
  obtain ⟨W0, hW0, e0, e1', e2'⟩ := allocs1 w (.cells #[.int .i64 0, .int .i64 0, .int .i64 0] 44)
  have C := class_yes (h.below e0).base n h3 (by omega)
  have e1 : (classOf n == 3) = false := by unfold classOf; simp; split <;> (try split) <;> omega
  generalize classOf n = c at *
  have e2 : Int.tmod a 8 = 0 := by rw [Int.tmod_eq_emod_of_nonneg h5]; exact h6
  have e3 : 4096 - n < a := by omega
  clear h6
  go_enter Tryd.func17, Tryd.ntmps17
  go_wp2_with fail
  refine C.mono ?_
  rintro r w1 ⟨rfl, hb⟩
  have hx1 := (hb.block _ (block_lt e2')).trans e2'
  have hb1 := e0.trans (hb.mono e0.size)
  have k1 := (h.below hb1).cSiz
  have k2 := (h.below (hb1.setCell (p := ⟨w.heap.size, 0, none⟩) (Nat.le_refl _) (.int .i64 0))).cSiz
  have hx2 := heap_setCell_same (i := 0) (.int .i64 0) hx1
  have hx3 := heap_setCell_same (i := 1) (.int .i64 0) hx2
  have hx4 := heap_setCell_same (i := 2) (.int .i64 0) hx3
  have c0 := cells_cell (i := 0) hx1 (v := .int .i64 0) rfl
  have c1 := cells_cell (i := 1) hx2 (v := .int .i64 0) rfl
  have c2 := cells_cell (i := 2) hx3 (v := .int .i64 0) rfl
  have f0 := cells_free (i := 0) hx1
  have f1 := cells_free (i := 1) hx2
  have f2 := cells_free (i := 2) hx3
  have d0 := cells_cell (i := 0) hx4 (v := .int .i64 0) rfl
  have d1 := cells_cell (i := 1) hx4 (v := .int .i64 0) rfl
  have d2 := cells_cell (i := 2) hx4 (v := .int .i64 0) rfl
  have hb2 : Below w.heap.size w (((w1.setCell ⟨w.heap.size, 0, none⟩ (.int .i64 0)).setCell ⟨w.heap.size, 1, none⟩ (.int .i64 0)).setCell ⟨w.heap.size, 2, none⟩ (.int .i64 0)) := ((hb1.setCell (p := ⟨w.heap.size, 0, none⟩) (Nat.le_refl _) _).setCell (p := ⟨w.heap.size, 1, none⟩) (Nat.le_refl _) _).setCell (p := ⟨w.heap.size, 2, none⟩) (Nat.le_refl _) _
  clear hx1 hx2 hx3 hx4 h e2' hb hb1 e0 C hW0
  go_wp2
  go_region
  go_wp2
  refine bodyPost_ret ?_ rfl ⟨rfl, hb2.drew⟩
  rw [results_cell_tmp rfl]
  clear k1 k2
  generalize ((w1.setCell ⟨w.heap.size, 0, none⟩ (.int .i64 0)).setCell ⟨w.heap.size, 1, none⟩ (.int .i64 0)).setCell ⟨w.heap.size, 2, none⟩ (.int .i64 0) = W at *
  go_simp

theorem ext_no {E : Env7} {w : World} (h : Glob7 E w) (a n : Int) (hx : extB a n = false) :
    Calls Tryd.prog 17 #[.int .i64 a, .int .i64 n] w fun r w' => r = .returned (.tuple #[.agg #[.int .i64 0, .int .i64 0, .int .i64 0], .iface 103 (.pointer (some E.aSiz))]) ∧ Below w.heap.size w w' := by
  have hx' : ¬ (0 ≤ a ∧ a % 8 = 0 ∧ 1 ≤ n ∧ n ≤ 2048 ∧ a + n ≤ 4096) := by rw [← extB_iff, hx]; decide
  by_cases h1 : 1 ≤ n ∧ n ≤ 131072
  · by_cases h2 : 2048 < n
    · exact ext_no2 h a n h1.1 h1.2 h2
    · by_cases h3 : a < 0
      · exact ext_no3 h a n h1.1 (by omega) h3
      · by_cases h4 : a % 8 = 0
        · exact ext_no5 h a n h1.1 (by omega) (by omega) h4 (by omega)
        · exact ext_no4 h a n h1.1 (by omega) (by omega) h4
  · exact ext_no1 h a n h1
end Go.Proofs.YtmgllljilnkkcaaDoor

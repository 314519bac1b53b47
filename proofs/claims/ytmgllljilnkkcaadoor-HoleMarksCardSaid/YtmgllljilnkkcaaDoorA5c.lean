/- Layer addr: sizes and classes. -/
import Derived.Test.YtmgllljilnkkcaaDoorA1
import Derived.Lib.Hide
namespace Go.Proofs.YtmgllljilnkkcaaDoor
open Go.RowKit
attribute [local go_sem ↓] Go.wp_at_zero Go.wp_at_succ

theorem size_yes {E : Env} {w : World} (h : Glob E w) (n : Int) (h1 : 1 ≤ n) (h2 : n ≤ 131072) : Calls Tryd.prog 36 #[.int .i64 n] w fun r w' => r = .returned .nilIface ∧ w = w' := by
  have k0 : w.cell? ⟨3, 0, none⟩ = some (.iface 103 (.pointer (some E.aSize))) := h.cSize
  go_enter Tryd.func36, Tryd.ntmps36
  go_wp2_with (go_at_call 40; refine (unless_true _ _).mono ?_; rintro e w' ⟨rfl, rfl⟩)
  go_ret
  exact ⟨rfl, rfl⟩
theorem size_no {E : Env} {w : World} (h : Glob E w) (n : Int) (hn : ¬(1 ≤ n ∧ n ≤ 131072)) : Calls Tryd.prog 36 #[.int .i64 n] w fun r w' => r = .returned (.iface 103 (.pointer (some E.aSize))) ∧ w = w' := by
  have k0 : w.cell? ⟨3, 0, none⟩ = some (.iface 103 (.pointer (some E.aSize))) := h.cSize
  by_cases h1 : 1 ≤ n
  · have h2 : ¬ n ≤ 131072 := fun h2 => hn ⟨h1, h2⟩
    clear hn
    go_enter Tryd.func36, Tryd.ntmps36
    go_wp2_with (go_at_call 40; refine (unless_false _ _).mono ?_; rintro e w' ⟨rfl, rfl⟩)
    go_ret
    exact ⟨rfl, rfl⟩
  · clear hn
    have h2 : n < 1 := by omega
    go_enter Tryd.func36, Tryd.ntmps36
    go_wp2_with (go_at_call 40; refine (unless_false _ _).mono ?_; rintro e w' ⟨rfl, rfl⟩)
    go_ret
    exact ⟨rfl, rfl⟩
theorem class1_any (n c m : Int) (B : Nat) (w : World) (hc : w.cell? ⟨B, 0, none⟩ = some (.int .i64 n)) (hB : B < w.heap.size) : Calls Tryd.prog 37 #[.agg #[.int .i64 c, .int .i64 m], .pointer (some ⟨B, 0, none⟩)] w fun r w' => r = .returned (.bool (decide (n ≤ m))) ∧ Below w.heap.size w w' := by
  go_enter Tryd.func37, Tryd.ntmps37
  go_wp2
  go_ret
  exact ⟨rfl, (Below.refl _ _).alloc (Nat.le_refl _) _⟩

def classOf (n : Int) : Int := if n ≤ 128 then 1 else if n ≤ 2048 then 2 else 3

set_option maxHeartbeats 1000000 in
theorem class_yes {E : Env} {w : World} (h : Glob E w) (n : Int) (h1 : 1 ≤ n) (h2 : n ≤ 131072) : Calls Tryd.prog 28 #[.int .i64 n] w fun r w' => r = .returned (.tuple #[.int .i64 (classOf n), .int .i64 0]) ∧ Below w.heap.size w w' := by
  have t0 := (h.below ((Below.refl _ w).alloc (Nat.le_refl _) (.cells #[.int .i64 n] 3))).t0
  have t1 := (h.below ((Below.refl _ w).alloc (Nat.le_refl _) (.cells #[.int .i64 n] 3))).t1
  have t2 := (h.below ((Below.refl _ w).alloc (Nat.le_refl _) (.cells #[.int .i64 n] 3))).t2
  have t3 := (h.below ((Below.refl _ w).alloc (Nat.le_refl _) (.cells #[.int .i64 n] 3))).t3
  have t4 := (h.below ((Below.refl _ w).alloc (Nat.le_refl _) (.cells #[.int .i64 n] 3))).t4
  have t5 := (h.below ((Below.refl _ w).alloc (Nat.le_refl _) (.cells #[.int .i64 n] 3))).t5
  have hG := h.below ((Below.refl _ w).alloc (Nat.le_refl _) (.cells #[.int .i64 n] 3))
  go_enter Tryd.func28, Tryd.ntmps28
  go_wp2_with (go_at_call 36; refine (size_yes hG _ h1 h2).mono ?_; rintro e w' ⟨rfl, rfl⟩)
  have hB : Below w.heap.size w (w.alloc (.cells #[.int .i64 n] 3)) := (Below.refl _ w).alloc (Nat.le_refl _) _
  have hx : (w.alloc (.cells #[.int .i64 n] 3)).heap[w.heap.size]? = some (.cells #[.int .i64 n] 3 (0, 0)) := World.alloc_heap_new w _
  clear t0 t1 t2 t3 t4 t5 hG h
  generalize w.alloc (.cells #[.int .i64 n] 3) = W0 at *
  have i0 : ∀ w, (Instr.index 85 (.agg #[.int .i64 1, .int .i64 128, .int .i64 2, .int .i64 2048, .int .i64 3, .int .i64 131072]) (.int .i64 0)).run Tryd.prog w = .ok (.agg #[.int .i64 1, .int .i64 128]) w := fun _ => by kernel_rfl
  have i1 : ∀ w, (Instr.index 85 (.agg #[.int .i64 1, .int .i64 128, .int .i64 2, .int .i64 2048, .int .i64 3, .int .i64 131072]) (.int .i64 1)).run Tryd.prog w = .ok (.agg #[.int .i64 2, .int .i64 2048]) w := fun _ => by kernel_rfl
  have i2 : ∀ w, (Instr.index 85 (.agg #[.int .i64 1, .int .i64 128, .int .i64 2, .int .i64 2048, .int .i64 3, .int .i64 131072]) (.int .i64 2)).run Tryd.prog w = .ok (.agg #[.int .i64 3, .int .i64 131072]) w := fun _ => by kernel_rfl
  have hxl := block_lt hx
  refine wp_loop_rounds 4 ?_
  rw [rounds_succ]
  clear hxl
  have hxl := block_lt hx
  have c0 : (W0.alloc (.cells #[.int .i64 1, .int .i64 128] 83)).cell? ⟨w.heap.size, 0, none⟩ = some (.int .i64 n) := cells_cell ((Below.heap_alloc _ _ _ hxl).trans hx) rfl
  have hb0 : Below w.heap.size w (W0.alloc (.cells #[.int .i64 1, .int .i64 128] 83)) := hB.alloc hB.size _
  go_wp2_with (go_at_call 37; refine (class1_any n _ _ _ _ c0 (by simp; omega)).mono ?_)
  rintro e W1 ⟨rfl, hb⟩
  have hB1 := hb0.trans (hb.mono hb0.size)
  have hx1 := (hb.block _ (by simp; omega)).trans ((Below.heap_alloc _ (.cells #[.int .i64 1, .int .i64 128] 83) _ hxl).trans hx)
  have c1 := cells_cell (i := 0) ((hb.block _ (by simp)).trans (World.alloc_heap_new W0 (.cells #[.int .i64 1, .int .i64 128] 83))) (v := .int .i64 1) rfl
  clear hb hb0 c0 hxl hx
  by_cases h128 : n ≤ 128
  · go_wp2
    go_ret2
    exact ⟨by simp [classOf, h128], hB1⟩
  go_wp2
  clear c1 hB
  rw [rounds_succ]
  have hxl := block_lt hx1
  have c0 : (W1.alloc (.cells #[.int .i64 2, .int .i64 2048] 83)).cell? ⟨w.heap.size, 0, none⟩ = some (.int .i64 n) := cells_cell ((Below.heap_alloc _ _ _ hxl).trans hx1) rfl
  have hb0 : Below w.heap.size w (W1.alloc (.cells #[.int .i64 2, .int .i64 2048] 83)) := hB1.alloc hB1.size _
  go_wp2_with (go_at_call 37; refine (class1_any n _ _ _ _ c0 (by simp; omega)).mono ?_)
  rintro e W2 ⟨rfl, hb⟩
  have hB2 := hb0.trans (hb.mono hb0.size)
  have hx2 := (hb.block _ (by simp; omega)).trans ((Below.heap_alloc _ (.cells #[.int .i64 2, .int .i64 2048] 83) _ hxl).trans hx1)
  have c1 := cells_cell (i := 0) ((hb.block _ (by simp)).trans (World.alloc_heap_new W1 (.cells #[.int .i64 2, .int .i64 2048] 83))) (v := .int .i64 2) rfl
  clear hb hb0 c0 hxl hx1
  by_cases h2048 : n ≤ 2048
  · go_wp2
    go_ret2
    exact ⟨by have a1 : ¬ n ≤ 128 := by omega
              simp [classOf, a1, h2048], hB2⟩
  go_wp2
  clear c1 hB1
  rw [rounds_succ]
  have hxl := block_lt hx2
  have c0 : (W2.alloc (.cells #[.int .i64 3, .int .i64 131072] 83)).cell? ⟨w.heap.size, 0, none⟩ = some (.int .i64 n) := cells_cell ((Below.heap_alloc _ _ _ hxl).trans hx2) rfl
  have hb0 : Below w.heap.size w (W2.alloc (.cells #[.int .i64 3, .int .i64 131072] 83)) := hB2.alloc hB2.size _
  go_wp2_with (go_at_call 37; refine (class1_any n _ _ _ _ c0 (by simp; omega)).mono ?_)
  rintro e W3 ⟨rfl, hb⟩
  have hB3 := hb0.trans (hb.mono hb0.size)
  have hx3 := (hb.block _ (by simp; omega)).trans ((Below.heap_alloc _ (.cells #[.int .i64 3, .int .i64 131072] 83) _ hxl).trans hx2)
  have c1 := cells_cell (i := 0) ((hb.block _ (by simp)).trans (World.alloc_heap_new W2 (.cells #[.int .i64 3, .int .i64 131072] 83))) (v := .int .i64 3) rfl
  clear hb hb0 c0 hxl hx2
  go_wp2
  go_ret2
  exact ⟨by have a1 : ¬ n ≤ 128 := by omega
            have a2 : ¬ n ≤ 2048 := by omega
            simp [classOf, a1, a2], hB3⟩

set_option maxHeartbeats 1000000 in
theorem class_no {E : Env} {w : World} (h : Glob E w) (n : Int) (hn : ¬(1 ≤ n ∧ n ≤ 131072)) : Calls Tryd.prog 28 #[.int .i64 n] w fun r w' => r = .returned (.tuple #[.int .i64 0, .int .i64 11]) ∧ Below w.heap.size w w' := by
  have hn' := Lib.hid hn
  clear hn
  have hG := h.below ((Below.refl _ w).alloc (Nat.le_refl _) (.cells #[.int .i64 n] 3))
  have t0 := hG.t0
  have t1 := hG.t1
  have t2 := hG.t2
  have t3 := hG.t3
  have t4 := hG.t4
  have t5 := hG.t5
  go_enter Tryd.func28, Tryd.ntmps28
  go_wp2_with (go_at_call 36; refine (size_no hG _ hn'.out).mono ?_; rintro e w' ⟨rfl, rfl⟩)
  have hB : Below w.heap.size w (w.alloc (.cells #[.int .i64 n] 3)) := (Below.refl _ w).alloc (Nat.le_refl _) _
  clear t0 t1 t2 t3 t4 t5 h
  generalize w.alloc (.cells #[.int .i64 n] 3) = W0 at *
  have i0 : ∀ w, (Instr.index 85 (.agg #[.int .i64 1, .int .i64 128, .int .i64 2, .int .i64 2048, .int .i64 3, .int .i64 131072]) (.int .i64 0)).run Tryd.prog w = .ok (.agg #[.int .i64 1, .int .i64 128]) w := fun _ => by kernel_rfl
  have i1 : ∀ w, (Instr.index 85 (.agg #[.int .i64 1, .int .i64 128, .int .i64 2, .int .i64 2048, .int .i64 3, .int .i64 131072]) (.int .i64 1)).run Tryd.prog w = .ok (.agg #[.int .i64 2, .int .i64 2048]) w := fun _ => by kernel_rfl
  have i2 : ∀ w, (Instr.index 85 (.agg #[.int .i64 1, .int .i64 128, .int .i64 2, .int .i64 2048, .int .i64 3, .int .i64 131072]) (.int .i64 2)).run Tryd.prog w = .ok (.agg #[.int .i64 3, .int .i64 131072]) w := fun _ => by kernel_rfl
  refine wp_loop_rounds 4 ?_
  rw [rounds_succ]
  go_wp2
  rw [rounds_succ]
  go_wp2
  rw [rounds_succ]
  go_wp2
  rw [rounds_succ]
  have hB3 := ((hB.alloc hB.size (.cells #[.int .i64 1, .int .i64 128] 83)).alloc (by have := hB.size; simp; omega) (.cells #[.int .i64 2, .int .i64 2048] 83)).alloc (by have := hB.size; simp; omega) (.cells #[.int .i64 3, .int .i64 131072] 83)
  have hG3 := hG.below ((((Below.refl _ W0).alloc (Nat.le_refl _) (.cells #[.int .i64 1, .int .i64 128] 83)).alloc (by simp) (.cells #[.int .i64 2, .int .i64 2048] 83)).alloc (by simp; omega) (.cells #[.int .i64 3, .int .i64 131072] 83))
  generalize ((W0.alloc (.cells #[.int .i64 1, .int .i64 128] 83)).alloc (.cells #[.int .i64 2, .int .i64 2048] 83)).alloc (.cells #[.int .i64 3, .int .i64 131072] 83) = W3 at *
  go_wp2_with (go_at_call 38; refine (told_one hG3 .size _ _).mono ?_; rintro e w' ⟨rfl, rfl⟩)
  go_ret2
  exact ⟨rfl, hB3.alloc hB3.size _⟩
end Go.Proofs.YtmgllljilnkkcaaDoor

/- Layer marks: Mark. -/
import Derived.Test.YtmgllljilnkkcaaDoorM5
namespace Go.Proofs.YtmgllljilnkkcaaDoor
open Go Go.RowKit
attribute [local go_sem ↓] Go.wp_at_zero Go.wp_at_succ

def ent (k : Int) (v : Value) (b : Nat) : MapEntry := { key := .int .i64 k, val := v, born := b }
theorem find_none0 (k : Int) (w : World) : (Instr.findKey 3 (.int .i64 k) []).run Tryd.prog w = .ok none w := by kernel_rfl
theorem find_none1 (v : Value) (w : World) : (Instr.findKey 3 (.int .i64 2) [ent 1 v 0]).run Tryd.prog w = .ok none w := by kernel_rfl
theorem find_one (u v : Value) (w : World) : (Instr.findKey 3 (.int .i64 1) [ent 1 u 0, ent 2 v 1]).run Tryd.prog w = .ok (some (0, u)) w := by kernel_rfl
theorem find_two (u v : Value) (w : World) : (Instr.findKey 3 (.int .i64 2) [ent 1 u 0, ent 2 v 1]).run Tryd.prog w = .ok (some (1, v)) w := by kernel_rfl
theorem checkInt (e : Bool) (k : Int) (w : World) : (Instr.checkKey e 10000 3 (.int .i64 k)).run Tryd.prog w = .ok () w := by cases e <;> kernel_rfl
theorem getMap {P : Program} {W : World} {M : Nat} {es : Array MapEntry} {c : Nat} (h : W.heap[M]? = some (.map es c)) : (getObj M).run P W = .ok (.map es c) W := by simp [getObj, Sem.run, h]
theorem setMap {P : Program} {W : World} {M : Nat} {es : Array MapEntry} {c : Nat} (o' : Obj) (h : W.heap[M]? = some (.map es c)) : (setObj M o').run P W = .ok () (W.putObj M o') := by simp [setObj, Sem.run, h, World.putObj]
theorem upd1 {W : World} {M : Nat} (v : Value) (h : W.heap[M]? = some (.map #[] 0)) : (Instr.mapUpdate 72 (.map (some M)) (.int .i64 1) v).run Tryd.prog W = .ok () (W.putObj M (.map #[ent 1 v 0] 1)) := by
  unfold Instr.mapUpdate
  have e1 := checkInt false 1 W
  have e2 := find_none0 1 W
  have e3 := run_underlying Tryd.underlying72 W
  have e4 := getMap (P := Tryd.prog) h
  have e5 := setMap (P := Tryd.prog) (.map #[ent 1 v 0] 1) h
  unfold ent at *
  simp [go_sem, e1, e2, e3, e4, e5]
theorem upd2 {W : World} {M : Nat} (u v : Value) (h : W.heap[M]? = some (.map #[ent 1 u 0] 1)) : (Instr.mapUpdate 72 (.map (some M)) (.int .i64 2) v).run Tryd.prog W = .ok () (W.putObj M (.map #[ent 1 u 0, ent 2 v 1] 2)) := by
  unfold Instr.mapUpdate
  have e1 := checkInt false 2 W
  have e2 := find_none1 u W
  have e3 := run_underlying Tryd.underlying72 W
  have e4 := getMap (P := Tryd.prog) h
  have e5 := setMap (P := Tryd.prog) (.map #[ent 1 u 0, ent 2 v 1] 2) h
  unfold ent at *
  simp [go_sem, e1, e2, e3, e4, e5]
theorem look1 {W : World} {M : Nat} (u v : Value) (h : W.heap[M]? = some (.map #[ent 1 u 0, ent 2 v 1] 2)) : (Instr.lookup 72 (.map (some M)) (.int .i64 1) false).run Tryd.prog W = .ok u W := by
  unfold Instr.lookup
  have e1 := checkInt false 1 W
  have e2 := find_one u v W
  have e3 := run_underlying Tryd.underlying72 W
  have e4 := getMap (P := Tryd.prog) h
  unfold ent at *
  simp [go_sem, e1, e2, e3, e4]
theorem look2 {W : World} {M : Nat} (u v : Value) (h : W.heap[M]? = some (.map #[ent 1 u 0, ent 2 v 1] 2)) : (Instr.lookup 72 (.map (some M)) (.int .i64 2) false).run Tryd.prog W = .ok v W := by
  unfold Instr.lookup
  have e1 := checkInt false 2 W
  have e2 := find_two u v W
  have e3 := run_underlying Tryd.underlying72 W
  have e4 := getMap (P := Tryd.prog) h
  unfold ent at *
  simp [go_sem, e1, e2, e3, e4]

theorem Sam.trans {S : Nat → Prop} {A B C : World} (h : Sam S A B) (k : Sam S B C) : Sam S A C :=
  ⟨Nat.le_trans h.size k.size, fun i hi hs => (k.same i (Nat.lt_of_lt_of_le hi h.size) hs).trans (h.same i hi hs)⟩
theorem below_put {B : Nat} {w W : World} (h : Below B w W) (l : Nat) (o : Obj) (hl : l < W.heap.size) (hB : B ≤ l) : Below B w (W.putObj l o) :=
  h.grown (grownBy_putObj' W l o) (by omega) (fun k e => by cases e; exact hB)

set_option maxRecDepth 20000 in
set_option maxHeartbeats 1000000 in
theorem marker_small {w : World} {B V g cap : Nat} {f : Nat → Int} (hB : w.cell? ⟨B, 0, none⟩ = some (.slice (some ⟨g, 0, none⟩) 32 cap)) (hA : Arr w g cap 3 32 f) (a n : Int) (hx : w.heap[V]? = some (.cells #[.int .i64 a, .int .i64 n, .int .i64 1] 44 (0, 0))) (k : Nat) (hk : Int.tdiv a 128 = k) (hlt : k < 32) :
    Calls Tryd.prog 19 #[.pointer (some ⟨B, 0, none⟩), .slice (some ⟨V, 0, none⟩) 1 1] w fun r w' => (∃ v, r = .returned v) ∧ Arr w' g cap 3 32 (fun j => if j = k then 2 else f j) ∧ Sam (fun j => j = g) w w' ∧ Below g w w' := by
  obtain ⟨W0, hW0, e0, e1, e2, e3⟩ := allocs2 w (.cells #[.pointer (some ⟨B, 0, none⟩)] 47) (.map #[] 0)
  have hmk := run_makeMap (P := Tryd.prog) 72 (w.alloc (.cells #[.pointer (some ⟨B, 0, none⟩)] 47))
  rw [World.size_alloc] at hmk
  have hu1 := upd1 (.func (.func 29) #[] #[.pointer (some ⟨w.heap.size, 0, none⟩)]) e3
  have p1 : (W0.putObj (w.heap.size + 1) (.map #[ent 1 (.func (.func 29) #[] #[.pointer (some ⟨w.heap.size, 0, none⟩)]) 0] 1)).heap[w.heap.size + 1]? = some (.map #[ent 1 (.func (.func 29) #[] #[.pointer (some ⟨w.heap.size, 0, none⟩)]) 0] 1) := World.putObj_heap_same (block_lt e3)
  have b1 := below_put (Below.refl w.heap.size W0) (w.heap.size + 1) (.map #[ent 1 (.func (.func 29) #[] #[.pointer (some ⟨w.heap.size, 0, none⟩)]) 0] 1) (by omega) (by omega)
  have hu2 := upd2 (.func (.func 29) #[] #[.pointer (some ⟨w.heap.size, 0, none⟩)]) (.func (.func 30) #[] #[.pointer (some ⟨w.heap.size, 0, none⟩)]) p1
  generalize hW1 : W0.putObj (w.heap.size + 1) (.map #[ent 1 (.func (.func 29) #[] #[.pointer (some ⟨w.heap.size, 0, none⟩)]) 0] 1) = W1 at *
  have b2 := below_put (Below.refl w.heap.size W1) (w.heap.size + 1) (.map #[ent 1 (.func (.func 29) #[] #[.pointer (some ⟨w.heap.size, 0, none⟩)]) 0, ent 2 (.func (.func 30) #[] #[.pointer (some ⟨w.heap.size, 0, none⟩)]) 1] 2) (block_lt p1) (by omega)
  have p2 : (W1.putObj (w.heap.size + 1) (.map #[ent 1 (.func (.func 29) #[] #[.pointer (some ⟨w.heap.size, 0, none⟩)]) 0, ent 2 (.func (.func 30) #[] #[.pointer (some ⟨w.heap.size, 0, none⟩)]) 1] 2)).heap[w.heap.size + 1]? = some (.map #[ent 1 (.func (.func 29) #[] #[.pointer (some ⟨w.heap.size, 0, none⟩)]) 0, ent 2 (.func (.func 30) #[] #[.pointer (some ⟨w.heap.size, 0, none⟩)]) 1] 2) := World.putObj_heap_same (block_lt p1)
  have q1 : W1.heap[w.heap.size]? = W0.heap[w.heap.size]? := by rw [← hW1]; exact World.putObj_heap_other (by omega)
  have q2 : (W1.putObj (w.heap.size + 1) (.map #[ent 1 (.func (.func 29) #[] #[.pointer (some ⟨w.heap.size, 0, none⟩)]) 0, ent 2 (.func (.func 30) #[] #[.pointer (some ⟨w.heap.size, 0, none⟩)]) 1] 2)).heap[w.heap.size]? = W1.heap[w.heap.size]? := World.putObj_heap_other (by omega)
  generalize hW2 : W1.putObj (w.heap.size + 1) (.map #[ent 1 (.func (.func 29) #[] #[.pointer (some ⟨w.heap.size, 0, none⟩)]) 0, ent 2 (.func (.func 30) #[] #[.pointer (some ⟨w.heap.size, 0, none⟩)]) 1] 2) = W2 at *
  have bb : Below w.heap.size w W2 := (e0.trans b1).trans b2
  have hP2 := cells_cell (i := 0) (q2.trans (q1.trans e2)) (v := .pointer (some ⟨B, 0, none⟩)) rfl
  have hB2 := (bb.cell (p := ⟨B, 0, none⟩) (cell_lt hB)).trans hB
  have hx2 := (bb.block _ (block_lt hx)).trans hx
  have hA2 := hA.next bb
  have hS2 := (Sam.refl (fun j => j = g) w).below bb
  have hgl := hA.lt
  clear hB hx hA e0 b1 b2 e2 q1 q2 hW1 p1 e3 hW2 e1
  go_enter Tryd.func19, Tryd.ntmps19
  go_wp2_with fail
  clear hmk hu1 hu2 hW0 W0 W1
  refine wp_loop_rounds 2 ?_
  rw [rounds_succ]
  have v0 := cells_cell (i := 0) hx2 (v := .int .i64 a) rfl
  have v1 := cells_cell (i := 1) hx2 (v := .int .i64 n) rfl
  have v2 := cells_cell (i := 2) hx2 (v := .int .i64 1) rfl
  obtain ⟨W3, hW3, e0, e1, e2⟩ := allocs1 W2 (.cells #[.int .i64 a, .int .i64 n, .int .i64 1] 44)
  have L1 := look1 _ _ ((e0.block _ (block_lt p2)).trans p2)
  have hP3 := (e0.cell (p := ⟨w.heap.size, 0, none⟩) (cell_lt hP2)).trans hP2
  have hB3 := (e0.cell (p := ⟨B, 0, none⟩) (cell_lt hB2)).trans hB2
  have C := mark1_any hP3 hB3 (hA2.next e0) a n 1 k hk hlt
  have hS3 := hS2.below e0
  have b3 := bb.trans (e0.mono bb.size)
  have x0 := cells_cell (i := 0) e2 (v := .int .i64 a) rfl
  have x1 := cells_cell (i := 1) e2 (v := .int .i64 n) rfl
  have x2 := cells_cell (i := 2) e2 (v := .int .i64 1) rfl
  clear p2 hx2 hP2 hB2 hA2 hS2
  go_wp2_with fail
  clear L1 v0 v1 v2 x0 x1 x2
  refine C.mono ?_
  rintro r W4 ⟨⟨v, rfl⟩, hA4, hS4, b4⟩
  go_wp2
  rw [rounds_succ]
  go_wp2
  go_end0
  exact ⟨⟨_, rfl⟩, hA4, hS3.trans hS4, (b3.mono (Nat.le_of_lt hgl)).trans b4⟩
set_option maxRecDepth 20000 in
set_option maxHeartbeats 1000000 in
theorem marker_medium {w : World} {B V g cap : Nat} {f : Nat → Int} (hB : w.cell? ⟨B, 0, none⟩ = some (.slice (some ⟨g, 0, none⟩) 32 cap)) (hBg : B ≠ g) (hA : Arr w g cap 3 32 f) (a n : Int) (hx : w.heap[V]? = some (.cells #[.int .i64 a, .int .i64 n, .int .i64 2] 44 (0, 0))) (k m : Nat) (hk : Int.tdiv a 128 = k) (hm : Int.tdiv (a + n - 1) 128 = m) (hkm : k ≤ m) (hlt : m < 32) (h0 : 0 ≤ a) (h1 : 1 ≤ n) (h2 : a + n ≤ 4096) :
    Calls Tryd.prog 19 #[.pointer (some ⟨B, 0, none⟩), .slice (some ⟨V, 0, none⟩) 1 1] w fun r w' => (∃ v, r = .returned v) ∧ Arr w' g cap 3 32 (fun j => if k ≤ j ∧ j ≤ m then max (f j) 1 else f j) ∧ Sam (fun j => j = g) w w' ∧ Below g w w' := by
  obtain ⟨W0, hW0, e0, e1, e2, e3⟩ := allocs2 w (.cells #[.pointer (some ⟨B, 0, none⟩)] 47) (.map #[] 0)
  have hmk := run_makeMap (P := Tryd.prog) 72 (w.alloc (.cells #[.pointer (some ⟨B, 0, none⟩)] 47))
  rw [World.size_alloc] at hmk
  have hu1 := upd1 (.func (.func 29) #[] #[.pointer (some ⟨w.heap.size, 0, none⟩)]) e3
  have p1 : (W0.putObj (w.heap.size + 1) (.map #[ent 1 (.func (.func 29) #[] #[.pointer (some ⟨w.heap.size, 0, none⟩)]) 0] 1)).heap[w.heap.size + 1]? = some (.map #[ent 1 (.func (.func 29) #[] #[.pointer (some ⟨w.heap.size, 0, none⟩)]) 0] 1) := World.putObj_heap_same (block_lt e3)
  have b1 := below_put (Below.refl w.heap.size W0) (w.heap.size + 1) (.map #[ent 1 (.func (.func 29) #[] #[.pointer (some ⟨w.heap.size, 0, none⟩)]) 0] 1) (by omega) (by omega)
  have hu2 := upd2 (.func (.func 29) #[] #[.pointer (some ⟨w.heap.size, 0, none⟩)]) (.func (.func 30) #[] #[.pointer (some ⟨w.heap.size, 0, none⟩)]) p1
  generalize hW1 : W0.putObj (w.heap.size + 1) (.map #[ent 1 (.func (.func 29) #[] #[.pointer (some ⟨w.heap.size, 0, none⟩)]) 0] 1) = W1 at *
  have b2 := below_put (Below.refl w.heap.size W1) (w.heap.size + 1) (.map #[ent 1 (.func (.func 29) #[] #[.pointer (some ⟨w.heap.size, 0, none⟩)]) 0, ent 2 (.func (.func 30) #[] #[.pointer (some ⟨w.heap.size, 0, none⟩)]) 1] 2) (block_lt p1) (by omega)
  have p2 : (W1.putObj (w.heap.size + 1) (.map #[ent 1 (.func (.func 29) #[] #[.pointer (some ⟨w.heap.size, 0, none⟩)]) 0, ent 2 (.func (.func 30) #[] #[.pointer (some ⟨w.heap.size, 0, none⟩)]) 1] 2)).heap[w.heap.size + 1]? = some (.map #[ent 1 (.func (.func 29) #[] #[.pointer (some ⟨w.heap.size, 0, none⟩)]) 0, ent 2 (.func (.func 30) #[] #[.pointer (some ⟨w.heap.size, 0, none⟩)]) 1] 2) := World.putObj_heap_same (block_lt p1)
  have q1 : W1.heap[w.heap.size]? = W0.heap[w.heap.size]? := by rw [← hW1]; exact World.putObj_heap_other (by omega)
  have q2 : (W1.putObj (w.heap.size + 1) (.map #[ent 1 (.func (.func 29) #[] #[.pointer (some ⟨w.heap.size, 0, none⟩)]) 0, ent 2 (.func (.func 30) #[] #[.pointer (some ⟨w.heap.size, 0, none⟩)]) 1] 2)).heap[w.heap.size]? = W1.heap[w.heap.size]? := World.putObj_heap_other (by omega)
  generalize hW2 : W1.putObj (w.heap.size + 1) (.map #[ent 1 (.func (.func 29) #[] #[.pointer (some ⟨w.heap.size, 0, none⟩)]) 0, ent 2 (.func (.func 30) #[] #[.pointer (some ⟨w.heap.size, 0, none⟩)]) 1] 2) = W2 at *
  have bb : Below w.heap.size w W2 := (e0.trans b1).trans b2
  have hP2 := cells_cell (i := 0) (q2.trans (q1.trans e2)) (v := .pointer (some ⟨B, 0, none⟩)) rfl
  have hB2 := (bb.cell (p := ⟨B, 0, none⟩) (cell_lt hB)).trans hB
  have hx2 := (bb.block _ (block_lt hx)).trans hx
  have hA2 := hA.next bb
  have hS2 := (Sam.refl (fun j => j = g) w).below bb
  have hgl := hA.lt
  have hCg : w.heap.size ≠ g := by omega
  clear hB hx hA e0 b1 b2 e2 q1 q2 hW1 p1 e3 hW2 e1
  go_enter Tryd.func19, Tryd.ntmps19
  go_wp2_with fail
  clear hmk hu1 hu2 hW0 W0 W1
  refine wp_loop_rounds 2 ?_
  rw [rounds_succ]
  have v0 := cells_cell (i := 0) hx2 (v := .int .i64 a) rfl
  have v1 := cells_cell (i := 1) hx2 (v := .int .i64 n) rfl
  have v2 := cells_cell (i := 2) hx2 (v := .int .i64 2) rfl
  obtain ⟨W3, hW3, e0, e1, e2⟩ := allocs1 W2 (.cells #[.int .i64 a, .int .i64 n, .int .i64 2] 44)
  have L1 := look2 _ _ ((e0.block _ (block_lt p2)).trans p2)
  have hP3 := (e0.cell (p := ⟨w.heap.size, 0, none⟩) (cell_lt hP2)).trans hP2
  have hB3 := (e0.cell (p := ⟨B, 0, none⟩) (cell_lt hB2)).trans hB2
  have C := mark2_any hP3 hB3 hBg hCg (hA2.next e0) a n 2 k m hk hm hkm hlt h0 h1 h2
  have hS3 := hS2.below e0
  have b3 := bb.trans (e0.mono bb.size)
  have x0 := cells_cell (i := 0) e2 (v := .int .i64 a) rfl
  have x1 := cells_cell (i := 1) e2 (v := .int .i64 n) rfl
  have x2 := cells_cell (i := 2) e2 (v := .int .i64 2) rfl
  clear p2 hx2 hP2 hB2 hA2 hS2
  go_wp2_with fail
  clear L1 v0 v1 v2 x0 x1 x2
  refine C.mono ?_
  rintro r W4 ⟨⟨v, rfl⟩, hA4, hS4, b4⟩
  go_wp2
  rw [rounds_succ]
  go_wp2
  go_end0
  exact ⟨⟨_, rfl⟩, hA4, hS3.trans hS4, (b3.mono (Nat.le_of_lt hgl)).trans b4⟩
end Go.Proofs.YtmgllljilnkkcaaDoor

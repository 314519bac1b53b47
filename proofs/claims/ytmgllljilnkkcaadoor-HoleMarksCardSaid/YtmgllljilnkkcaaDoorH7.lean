/- Layer hole: no room where there is no table. -/
import Derived.Test.YtmgllljilnkkcaaDoorH6
namespace Go.Proofs.YtmgllljilnkkcaaDoor
open Go Go.RowKit Go.Shelf
attribute [local go_sem ↓] Go.wp_at_zero Go.wp_at_succ
attribute [local go_sem] Oper.semAt_some
attribute [local go_sem ↓] run_max_int run_min_int

set_option maxHeartbeats 1000000 in
set_option maxRecDepth 20000 in
theorem room_wrong {w : World} {a : Option Addr} {cap : Nat} {l : List Int} (hv : IntsV w (.slice a l.length cap) l) (hr : rightT l = false) :
    Calls Tryd.prog 8 #[.slice a l.length cap] w fun r w' => r = .returned (.int .i64 0) ∧ Below w.heap.size w w' := by
  obtain ⟨WA, hWA, a0, a1, a2⟩ := allocs1 w (.cells #[.int .i64 0] 3)
  have O := open_any (hv.below a0)
  rw [hr] at O
  obtain ⟨W1, hW1, e0, e1', e2'⟩ := allocs1 WA.drew (.cells #[.slice a l.length l.length, .bool false] 62)
  have e1 : W1.heap.size = WA.heap.size + 1 := e1'
  have e2 : W1.heap[WA.heap.size]? = some (.cells #[.slice a l.length l.length, .bool false] 62 (0, 0)) := e2'
  have eb : Below WA.heap.size WA W1 := (Below.refl _ WA).drew.trans e0
  obtain ⟨W0, hW0, f0, f1, f3, f4⟩ := allocs2 W1 (.cells #[.pointer (some ⟨WA.heap.size, 0, none⟩)] 53) (.cells #[.int .i64 0] 3)
  have g3 := cells_cell (i := 0) f3 (v := .pointer (some ⟨WA.heap.size, 0, none⟩)) rfl
  have hG := holes1_none (D := W1.heap.size + 1) (F0 := fun j => j < W0.heap.size ∧ j ≠ w.heap.size) g3 ((f0.block _ (block_lt e2)).trans e2)
  have hHo := holes_any WA.heap.size 0 W1
  have bx : W0.heap[w.heap.size]? = some (.cells #[.int .i64 0] 3 (0, 0)) := (f0.block _ (by omega)).trans ((eb.block _ (by omega)).trans a2)
  have bb : Below w.heap.size w W0 := (a0.trans (eb.mono a0.size)).trans (f0.mono (by have := a0.size; omega))
  have hw0 : w.heap.size + 1 ≤ W0.heap.size := by omega
  have HWA := Lib.hid hWA
  clear hr hv e0 e1' e1 e2' g3 f3 f4 e2 a0 a1 a2 eb f0 f1 hWA
  refine calls_of_wp_marks Tryd.func8 rfl ?_
  simp only [Tryd.ntmps8, List.size_toArray, List.length_cons, List.length_nil, Nat.reduceAdd, Nat.reduceSub, Array.replicate_succ, Array.replicate_zero, List.push_toArray, List.append_toArray, List.nil_append, List.cons_append]
  go_wp2_with fail
  rw [HWA.out]
  refine O.mono ?_
  rintro r W1' ⟨rfl, hw1⟩
  rw [hW1] at hw1
  subst hw1
  clear O hW1
  go_wp2_with (go_at_call 22; refine hHo.mono ?_; rintro r w' ⟨rfl, rfl⟩)
  try rw [hW0]
  clear hW0 hHo HWA
  refine rf_wp (gf := 31) (lb := #[.pointer (some ⟨W1'.heap.size, 0, none⟩), .pointer (some ⟨W1'.heap.size + 1, 0, none⟩)]) rfl (enters_of Tryd.func31 (by kernel_rfl) rfl) ?_
  intro D L W2 hD hRf hB2 hsz hK hL
  have h0 : BoxF w w.heap.size D (L .ready none) 3 (.int .i64 (roomH [])) (fun j => j < W0.heap.size ∧ j ≠ w.heap.size) W2 :=
    ⟨bb.trans (hB2.mono bb.size), by omega, by omega, (hB2.block _ (by omega)).trans bx, hK, hL, fun j hj => ⟨by omega, hj.2, by omega, by omega⟩⟩
  have hle : w.heap.size ≤ W0.heap.size := by omega
  clear hD hsz bx bb
  refine (hG (D + 1) (fun pre F W => BoxF w w.heap.size D (L .ready none) 3 (.int .i64 (roomH pre)) F W) (fun _ => False) W2 hB2 h0 (fun _ _ _ _ h hb => h.next hb) (fun _ _ _ b i u h hF hle' => h.set b i u hF (by omega)) (fun _ _ _ _ h hs => h.sub hs) (fun _ _ h _ => h.elim) ?_).mono ?_
  · intro pre x post F W hxs hC
    exact absurd hxs (by simp)
  · rintro e W ⟨hv, (⟨F, hC⟩ | hF)⟩
    · refine ⟨hv, hC.marks, .inl ⟨hC.loop, ?_⟩⟩
      have hC2 := hC.put (L .exhausted none)
      clear hC h0 hG
      generalize W.putObj (D + 1) (L .exhausted none) = V2 at *
      have c1 := hC2.box.cell
      change V2.cell? _ = some (.int .i64 0) at c1
      go_wp2
      exact bodyPostR_ret (D := D) hC2.marks (results_tmp rfl _ _ _) ⟨rfl, below_putObj hC2.below _ hC2.marks (by have := hC2.le; omega)⟩
    · exact hF.elim

set_option maxHeartbeats 1000000 in
set_option maxRecDepth 20000 in
theorem long_wrong {w : World} {a : Option Addr} {cap : Nat} {l : List Int} (hv : IntsV w (.slice a l.length cap) l) (hr : rightT l = false) :
    Calls Tryd.prog 14 #[.slice a l.length cap] w fun r w' => r = .returned (.int .i64 0) ∧ Below w.heap.size w w' := by
  obtain ⟨WA, hWA, a0, a1, a2⟩ := allocs1 w (.cells #[.int .i64 0] 3)
  have O := open_any (hv.below a0)
  rw [hr] at O
  obtain ⟨W1, hW1, e0, e1', e2'⟩ := allocs1 WA.drew (.cells #[.slice a l.length l.length, .bool false] 62)
  have e1 : W1.heap.size = WA.heap.size + 1 := e1'
  have e2 : W1.heap[WA.heap.size]? = some (.cells #[.slice a l.length l.length, .bool false] 62 (0, 0)) := e2'
  have eb : Below WA.heap.size WA W1 := (Below.refl _ WA).drew.trans e0
  obtain ⟨W0, hW0, f0, f1, f3, f4⟩ := allocs2 W1 (.cells #[.pointer (some ⟨WA.heap.size, 0, none⟩)] 53) (.cells #[.int .i64 0] 3)
  have g3 := cells_cell (i := 0) f3 (v := .pointer (some ⟨WA.heap.size, 0, none⟩)) rfl
  have hG := holes1_none (D := W1.heap.size + 1) (F0 := fun j => j < W0.heap.size ∧ j ≠ w.heap.size) g3 ((f0.block _ (block_lt e2)).trans e2)
  have hHo := holes_any WA.heap.size 0 W1
  have bx : W0.heap[w.heap.size]? = some (.cells #[.int .i64 0] 3 (0, 0)) := (f0.block _ (by omega)).trans ((eb.block _ (by omega)).trans a2)
  have bb : Below w.heap.size w W0 := (a0.trans (eb.mono a0.size)).trans (f0.mono (by have := a0.size; omega))
  have hw0 : w.heap.size + 1 ≤ W0.heap.size := by omega
  have HWA := Lib.hid hWA
  clear hr hv e0 e1' e1 e2' g3 f3 f4 e2 a0 a1 a2 eb f0 f1 hWA
  refine calls_of_wp_marks Tryd.func14 rfl ?_
  simp only [Tryd.ntmps14, List.size_toArray, List.length_cons, List.length_nil, Nat.reduceAdd, Nat.reduceSub, Array.replicate_succ, Array.replicate_zero, List.push_toArray, List.append_toArray, List.nil_append, List.cons_append]
  go_wp2_with fail
  rw [HWA.out]
  refine O.mono ?_
  rintro r W1' ⟨rfl, hw1⟩
  rw [hW1] at hw1
  subst hw1
  clear O hW1
  go_wp2_with (go_at_call 22; refine hHo.mono ?_; rintro r w' ⟨rfl, rfl⟩)
  try rw [hW0]
  clear hW0 hHo HWA
  refine rf_wp (gf := 31) (lb := #[.pointer (some ⟨W1'.heap.size, 0, none⟩), .pointer (some ⟨W1'.heap.size + 1, 0, none⟩)]) rfl (enters_of Tryd.func31 (by kernel_rfl) rfl) ?_
  intro D L W2 hD hRf hB2 hsz hK hL
  have h0 : BoxF w w.heap.size D (L .ready none) 3 (.int .i64 (longH [])) (fun j => j < W0.heap.size ∧ j ≠ w.heap.size) W2 :=
    ⟨bb.trans (hB2.mono bb.size), by omega, by omega, (hB2.block _ (by omega)).trans bx, hK, hL, fun j hj => ⟨by omega, hj.2, by omega, by omega⟩⟩
  have hle : w.heap.size ≤ W0.heap.size := by omega
  clear hD hsz bx bb
  refine (hG (D + 1) (fun pre F W => BoxF w w.heap.size D (L .ready none) 3 (.int .i64 (longH pre)) F W) (fun _ => False) W2 hB2 h0 (fun _ _ _ _ h hb => h.next hb) (fun _ _ _ b i u h hF hle' => h.set b i u hF (by omega)) (fun _ _ _ _ h hs => h.sub hs) (fun _ _ h _ => h.elim) ?_).mono ?_
  · intro pre x post F W hxs hC
    exact absurd hxs (by simp)
  · rintro e W ⟨hv, (⟨F, hC⟩ | hF)⟩
    · refine ⟨hv, hC.marks, .inl ⟨hC.loop, ?_⟩⟩
      have hC2 := hC.put (L .exhausted none)
      clear hC h0 hG
      generalize W.putObj (D + 1) (L .exhausted none) = V2 at *
      have c1 := hC2.box.cell
      change V2.cell? _ = some (.int .i64 0) at c1
      go_wp2
      exact bodyPostR_ret (D := D) hC2.marks (results_tmp rfl _ _ _) ⟨rfl, below_putObj hC2.below _ hC2.marks (by have := hC2.le; omega)⟩
    · exact hF.elim
end Go.Proofs.YtmgllljilnkkcaaDoor

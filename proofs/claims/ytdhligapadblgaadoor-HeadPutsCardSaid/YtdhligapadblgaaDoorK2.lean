/- Layer head: the numbers of a head; is it right. -/
import Derived.Test.YtdhligapadblgaaDoorK1
import Derived.BigRegion
import Derived.StillTailTactics
namespace Go.Proofs.YtdhligapadblgaaDoor
open Go.RowKit
attribute [local go_sem ↓] Go.wp_at_zero Go.wp_at_succ

set_option maxHeartbeats 2000000 in
set_option maxRecDepth 20000 in
theorem numbers_any {w : World} {g : Nat} {t : TypeId} {k l c e : Int} (hg : w.heap[g]? = some (.cells #[.int .i64 k, .int .i64 l, .int .i64 c, .int .i64 e] t (0, 0))) :
    Calls Tryd.prog 33 #[.pointer (some ⟨g, 0, none⟩)] w fun r w' => r = .returned (.agg #[.int .i64 k, .int .i64 c, .int .i64 e, .int .i64 l]) ∧ Below w.heap.size w w' := by
  obtain ⟨w1, hw1, a0, a1, a2⟩ := allocs1 w (.cells #[.int .i64 0, .int .i64 0, .int .i64 0, .int .i64 0] 65)
  have b1 := (a0.block _ (block_lt hg)).trans hg
  have c0 := cells_cell (i := 0) b1 (v := .int .i64 k) rfl
  have c1 := cells_cell (i := 1) b1 (v := .int .i64 l) rfl
  have c2 := cells_cell (i := 2) b1 (v := .int .i64 c) rfl
  have c3 := cells_cell (i := 3) b1 (v := .int .i64 e) rfl
  have d0 := cells_cell (i := 0) a2 (v := .int .i64 0) rfl
  have d1 := cells_cell (i := 1) a2 (v := .int .i64 0) rfl
  have d2 := cells_cell (i := 2) a2 (v := .int .i64 0) rfl
  have d3 := cells_cell (i := 3) a2 (v := .int .i64 0) rfl
  have f0 := cells_free (i := 0) a2
  have f1 := cells_free (i := 1) a2
  have f2 := cells_free (i := 2) a2
  have f3 := cells_free (i := 3) a2
  have hb2 := (((a0.setCell (p := ⟨w.heap.size, 0, none⟩) (Nat.le_refl _) (.int .i64 k)).setCell (p := ⟨w.heap.size, 1, none⟩) (Nat.le_refl _) (.int .i64 c)).setCell (p := ⟨w.heap.size, 2, none⟩) (Nat.le_refl _) (.int .i64 e)).setCell (p := ⟨w.heap.size, 3, none⟩) (Nat.le_refl _) (.int .i64 l)
  have e4 := heap_setCell_same (i := 3) (.int .i64 l) (heap_setCell_same (i := 2) (.int .i64 e) (heap_setCell_same (i := 1) (.int .i64 c) (heap_setCell_same (i := 0) (.int .i64 k) a2)))
  have HB := Lib.hid hb2
  have HE := Lib.hid e4
  have hi : (Tryd.prog.info? 65).map (·.size) = some 4 := by kernel_rfl
  clear hb2 e4 b1 a0 a1 a2 hg
  go_enter Tryd.func33, Tryd.ntmps33
  go_wp2
  clear hw1
  refine wp_region_still_tail 21 (by kernel_rfl) (by kernel_rfl) ?_
  simp only [List.take_succ_cons, List.take_zero, List.drop_succ_cons, List.drop_zero]
  repeat still_step
  refine wpStill_nil ?_
  change wpList _ _ _ _ _ w1.drew
  go_wp2
  exact bodyPost_ret (results_cell_row rfl _ _ w.heap.size 65 #[.int .i64 k, .int .i64 c, .int .i64 e, .int .i64 l] (0, 0) _ rfl HE.out Tryd.underlying65 rfl hi) rfl ⟨rfl, by first | exact HB.out | exact HB.out.drew⟩

/-- Is a head right? -/
def rightM (k l c e : Int) : Bool := hasP 1 60 k && (hasP 1 3 c && (hasP 0 255 e && hasP 0 40000 l))
theorem run_idx4 (w : World) (a b c d : Int) (i : Nat) (hi : i < 4) : (Instr.index 65 (.agg #[.int .i64 a, .int .i64 b, .int .i64 c, .int .i64 d]) (.int .i64 (i : Int))).run Tryd.prog w = .ok (#[Value.int .i64 a, .int .i64 b, .int .i64 c, .int .i64 d].getD i undef) w := by
  have hu := run_underlying (P := Tryd.prog) Tryd.underlying65
  have hi2 : (Tryd.prog.info? 3).map (·.size) = some 1 := by kernel_rfl
  obtain ⟨i0, h0, hs0⟩ := Option.map_eq_some_iff.1 hi2
  have hs : ∀ w, (sizeOf 3).run Tryd.prog w = .ok 1 w := fun w => by simp [sizeOf, typeInfo, h0, hs0]
  have hu3 := run_underlying (P := Tryd.prog) Tryd.underlying3
  have : i = 0 ∨ i = 1 ∨ i = 2 ∨ i = 3 := by omega
  rcases this with rfl | rfl | rfl | rfl <;> simp [Instr.index, hu, hu3, asIntOf, hs, part, isAgg]
theorem run_idx4_0 (w : World) (a b c d : Int) : (Instr.index 65 (.agg #[.int .i64 a, .int .i64 b, .int .i64 c, .int .i64 d]) (.int .i64 0)).run Tryd.prog w = .ok (.int .i64 a) w := run_idx4 w a b c d 0 (by decide)
theorem run_idx4_1 (w : World) (a b c d : Int) : (Instr.index 65 (.agg #[.int .i64 a, .int .i64 b, .int .i64 c, .int .i64 d]) (.int .i64 1)).run Tryd.prog w = .ok (.int .i64 b) w := run_idx4 w a b c d 1 (by decide)
theorem run_idx4_2 (w : World) (a b c d : Int) : (Instr.index 65 (.agg #[.int .i64 a, .int .i64 b, .int .i64 c, .int .i64 d]) (.int .i64 2)).run Tryd.prog w = .ok (.int .i64 c) w := run_idx4 w a b c d 2 (by decide)
theorem run_idx4_3 (w : World) (a b c d : Int) : (Instr.index 65 (.agg #[.int .i64 a, .int .i64 b, .int .i64 c, .int .i64 d]) (.int .i64 3)).run Tryd.prog w = .ok (.int .i64 d) w := run_idx4 w a b c d 3 (by decide)
attribute [local go_sem ↓] run_idx4_0 run_idx4_1 run_idx4_2 run_idx4_3
theorem blH {w W W' : World} (h : Below w.heap.size w W) (h' : Below W.heap.size W W') : Below w.heap.size w W' := h.trans (h'.mono h.size)
set_option maxHeartbeats 4000000 in
set_option maxRecDepth 20000 in
theorem right_anyH {E : EnvH} {w : World} (hG : GlobH E w) (k l c e : Int) :
    Calls Tryd.prog 15 #[.agg #[.int .i64 k, .int .i64 l, .int .i64 c, .int .i64 e]] w fun r w' => r = .returned (.bool (rightM k l c e)) ∧ Below w.heap.size w w' := by
  obtain ⟨w2, hw2, hB, a1, a2, b2⟩ := allocs2 w (.cells #[.int .i64 k, .int .i64 l, .int .i64 c, .int .i64 e] 23) (.cells #[.int .i64 k, .int .i64 l, .int .i64 c, .int .i64 e] 62)
  have N := numbers_any b2
  have hG2 := hG.below hB
  clear a1 a2 b2 hG
  go_enter Tryd.func15, Tryd.ntmps15
  go_wp2_with fail
  refine N.mono ?_
  rintro r w3 ⟨rfl, hb⟩
  have hB3 := blH hB hb
  have hG3 := hG2.below hb
  clear N hb hG2 hB hw2
  go_wp2
  refine wp_loop_rounds 5 ?_
  rw [rounds_succ]
  have t0 := hG3.t0
  have t1 := hG3.t1
  have t2 := hG3.t2
  have H := has_anyH 1 60 1 k w3
  cases hp0 : hasP 1 60 k with
  | false =>
    have HFI := Lib.hid (show rightM k l c e = false by unfold rightM; rw [hp0]; simp)
    rw [hp0] at H
    clear hp0
    go_wp2_with fail
    refine H.mono ?_
    rintro r w4 ⟨rfl, hb⟩
    have hBf := blH hB3 hb
    clear H hb t0 t1 t2
    go_wp2
    go_ret
    exact ⟨by rw [HFI.out]; rfl, hBf⟩
  | true =>
    have HP0 := Lib.hid hp0
    rw [hp0] at H
    clear hp0
    go_wp2_with fail
    refine H.mono ?_
    rintro r w4 ⟨rfl, hb⟩
    have hB4 := blH hB3 hb
    have hG4 := hG3.below hb
    clear H hb t0 t1 t2 hB3 hG3
    go_wp2
    rw [rounds_succ]
    have t0 := hG4.t3
    have t1 := hG4.t4
    have t2 := hG4.t5
    have H := has_anyH 1 3 1 c w4
    cases hp1 : hasP 1 3 c with
    | false =>
      have HFI := Lib.hid (show rightM k l c e = false by unfold rightM; rw [HP0.out, hp1]; simp)
      rw [hp1] at H
      clear hp1
      go_wp2_with fail
      refine H.mono ?_
      rintro r w5 ⟨rfl, hb⟩
      have hBf := blH hB4 hb
      clear H hb t0 t1 t2
      go_wp2
      go_ret
      exact ⟨by rw [HFI.out]; rfl, hBf⟩
    | true =>
      have HP1 := Lib.hid hp1
      rw [hp1] at H
      clear hp1
      go_wp2_with fail
      refine H.mono ?_
      rintro r w5 ⟨rfl, hb⟩
      have hB5 := blH hB4 hb
      have hG5 := hG4.below hb
      clear H hb t0 t1 t2 hB4 hG4
      go_wp2
      rw [rounds_succ]
      have t0 := hG5.t6
      have t1 := hG5.t7
      have t2 := hG5.t8
      have H := has_anyH 0 255 1 e w5
      cases hp2 : hasP 0 255 e with
      | false =>
        have HFI := Lib.hid (show rightM k l c e = false by unfold rightM; rw [HP0.out, HP1.out, hp2]; simp)
        rw [hp2] at H
        clear hp2
        go_wp2_with fail
        refine H.mono ?_
        rintro r w6 ⟨rfl, hb⟩
        have hBf := blH hB5 hb
        clear H hb t0 t1 t2
        go_wp2
        go_ret
        exact ⟨by rw [HFI.out]; rfl, hBf⟩
      | true =>
        have HP2 := Lib.hid hp2
        rw [hp2] at H
        clear hp2
        go_wp2_with fail
        refine H.mono ?_
        rintro r w6 ⟨rfl, hb⟩
        have hB6 := blH hB5 hb
        have hG6 := hG5.below hb
        clear H hb t0 t1 t2 hB5 hG5
        go_wp2
        rw [rounds_succ]
        have t0 := hG6.t9
        have t1 := hG6.t10
        have t2 := hG6.t11
        have H := has_anyH 0 40000 3 l w6
        cases hp3 : hasP 0 40000 l with
        | false =>
          have HFI := Lib.hid (show rightM k l c e = false by unfold rightM; rw [HP0.out, HP1.out, HP2.out, hp3]; simp)
          rw [hp3] at H
          clear hp3
          go_wp2_with fail
          refine H.mono ?_
          rintro r w7 ⟨rfl, hb⟩
          have hBf := blH hB6 hb
          clear H hb t0 t1 t2
          go_wp2
          go_ret
          exact ⟨by rw [HFI.out]; rfl, hBf⟩
        | true =>
          have HP3 := Lib.hid hp3
          rw [hp3] at H
          clear hp3
          go_wp2_with fail
          refine H.mono ?_
          rintro r w7 ⟨rfl, hb⟩
          have hB7 := blH hB6 hb
          have hG7 := hG6.below hb
          clear H hb t0 t1 t2 hB6 hG6
          go_wp2
          rw [rounds_succ]
          have HFI := Lib.hid (show rightM k l c e = true by unfold rightM; rw [HP0.out, HP1.out, HP2.out, HP3.out]; rfl)
          go_wp2
          go_ret
          exact ⟨by rw [HFI.out]; rfl, hB7⟩
end Go.Proofs.YtdhligapadblgaaDoor

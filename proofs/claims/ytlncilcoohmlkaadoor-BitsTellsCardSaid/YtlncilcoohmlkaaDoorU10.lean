/- Layer bits: what is shown of some bits. -/
import Derived.Test.YtlncilcoohmlkaaDoorU9
namespace Go.Proofs.YtlncilcoohmlkaaDoor
open Go.RowKit
attribute [local go_sem ↓] Go.wp_at_zero Go.wp_at_succ

theorem k_make : makeN 40 = 40 ∧ makeE 40 = 0 ∧ makeL 40 = [0, 0] := by decide +kernel
theorem k_fill : fillN 40 [0, 0] 30 34 = 40 ∧ fillE 40 [0, 0] 30 34 = 0 ∧ fillL 40 [0, 0] 30 34 true = [3221225472, 3] := by decide +kernel
theorem k_next1 : nextI 40 [3221225472, 3] 0 true = some 30 := by decide +kernel
theorem k_next2 : nextI 40 [3221225472, 3] 30 false = some 34 := by decide +kernel
theorem k_set : setN 40 [3221225472, 3] 40 = 0 ∧ setE 40 [3221225472, 3] 40 = 21 ∧ setL 40 [3221225472, 3] 40 true = [] := by decide +kernel
theorem k_list : (listI 40 [3221225472, 3]).length = 4 := by decide +kernel
theorem k_same : sameB 40 [3221225472, 3] 40 [3221225472, 3] = true := by decide +kernel

theorem litW2 (w : World) (x y : Nat) (hx : x < 4294967296) (hy : y < 4294967296) (t : TypeId) : WordsV (w.alloc (.cells #[.int .u32 (x : Int), .int .u32 (y : Int)] t)) (.slice (some ⟨w.heap.size, 0, none⟩) 2 2) [x, y] := by
  have hn := World.alloc_heap_new w (.cells #[.int .u32 (x : Int), .int .u32 (y : Int)] t)
  refine .some w.heap.size 0 2 [x, y] (Nat.le_refl _) (by decide) (fun i => ?_) fun i hi => ?_
  · match i with
    | 0 => exact hx
    | 1 => exact hy
    | i + 2 => simp [List.getD]
  · match i, hi with
    | 0, _ => exact cells_cell hn rfl
    | 1, _ => exact cells_cell hn rfl

set_option maxHeartbeats 4000000 in
set_option maxRecDepth 20000 in
theorem shown_any {E : Env2} {w : World} (hGl : Glob2 E w) : Calls Tryd.prog 11 #[] w fun r w' => r = .returned (.bool true) ∧ Below w.heap.size w w' := by
  have hb : Below w.heap.size w w := Below.refl _ _
  have m1 := make_any2 hGl 40
  rw [k_make.1, k_make.2.1, k_make.2.2] at m1
  go_enter Tryd.func11, Tryd.ntmps11
  go_wp2_with fail
  refine m1.mono ?_
  rintro r w1 ⟨⟨va, rfl, ha⟩, hb1⟩
  obtain ⟨a, ca, rfl⟩ := ha.slice
  simp only [List.length_cons, List.length_nil, Nat.zero_add, Nat.reduceAdd] at ha ⊢
  replace hb := hb.trans (hb1.mono hb.size)
  replace hGl := hGl.below hb1
  obtain ⟨w2, hw2, e0, e1, b2⟩ := allocs1 w1 (.cells #[.int .i64 40, .slice a 2 ca] 24)
  replace hb := hb.trans (e0.mono hb.size)
  replace ha := ha.below e0
  replace hGl := hGl.below e0
  have c0 := cells_cell (i := 0) b2 (v := .int .i64 40) rfl
  have c1 := cells_cell (i := 1) b2 (v := .slice a 2 ca) rfl
  clear m1 hb1 e0 e1
  have m1 := fill_any hGl (n := 40) ha 30 34 true
  rw [k_fill.1, k_fill.2.1, k_fill.2.2] at m1
  clear b2
  go_wp2_with fail
  refine m1.mono ?_
  rintro r w3 ⟨⟨vf, rfl, hf⟩, hb3⟩
  obtain ⟨f, cf, rfl⟩ := hf.slice
  simp only [List.length_cons, List.length_nil, Nat.zero_add, Nat.reduceAdd] at hf ⊢
  replace hb := hb.trans (hb3.mono hb.size)
  replace hGl := hGl.below hb3
  obtain ⟨w4, hw4, e0, e1, b4⟩ := allocs1 w3 (.cells #[.int .i64 40, .slice f 2 cf] 24)
  replace hb := hb.trans (e0.mono hb.size)
  replace hf := hf.below e0
  replace hGl := hGl.below e0
  have d0 := cells_cell (i := 0) b4 (v := .int .i64 40) rfl
  have d1 := cells_cell (i := 1) b4 (v := .slice f 2 cf) rfl
  clear m1 hb3 e0 e1 c0 c1 ha hw2
  have m1 := next_any2 (n := 40) hf 0 true
  rw [k_next1] at m1
  change Calls _ _ _ _ fun r w' => r = .returned (.tuple #[.int .i64 30, .bool true]) ∧ _ at m1
  go_wp2_with fail
  refine m1.mono ?_
  rintro r w5 ⟨rfl, hb5⟩
  replace hb := hb.trans (hb5.mono hb.size)
  replace hGl := hGl.below hb5
  replace hf := hf.below hb5
  replace b4 := (hb5.block _ (block_lt b4)).trans b4
  clear d0 d1 m1 hb5 hw4
  have d0 := cells_cell (i := 0) b4 (v := .int .i64 40) rfl
  have d1 := cells_cell (i := 1) b4 (v := .slice f 2 cf) rfl
  have m1 := next_any2 (n := 40) hf 30 false
  rw [k_next2] at m1
  change Calls _ _ _ _ fun r w' => r = .returned (.tuple #[.int .i64 34, .bool true]) ∧ _ at m1
  go_wp2_with fail
  refine m1.mono ?_
  rintro r w6 ⟨rfl, hb6⟩
  replace hb := hb.trans (hb6.mono hb.size)
  replace hGl := hGl.below hb6
  replace hf := hf.below hb6
  replace b4 := (hb6.block _ (block_lt b4)).trans b4
  clear d0 d1 m1 hb6
  have d0 := cells_cell (i := 0) b4 (v := .int .i64 40) rfl
  have d1 := cells_cell (i := 1) b4 (v := .slice f 2 cf) rfl
  have m1 := set_any hGl (n := 40) hf 40 true
  rw [k_set.1, k_set.2.1, k_set.2.2] at m1
  go_wp2_with fail
  refine m1.mono ?_
  rintro r w7 ⟨⟨vs, rfl, hs⟩, hb7⟩
  obtain ⟨s, cs, rfl⟩ := hs.slice
  simp only [List.length_nil] at hs ⊢
  replace hb := hb.trans (hb7.mono hb.size)
  replace hf := hf.below hb7
  replace b4 := (hb7.block _ (block_lt b4)).trans b4
  obtain ⟨w8, hw8, e0, e1, b8⟩ := allocs1 w7 (.cells #[.int .i64 0, .slice s 0 cs] 24)
  replace hb := hb.trans (e0.mono hb.size)
  replace hf := hf.below e0
  replace b4 := (e0.block _ (block_lt b4)).trans b4
  clear d0 d1 m1 hb7 e0 e1 b8 hs hGl
  obtain ⟨w9, hw9, e0, e1, b9⟩ := allocs1 w8 (.cells #[.int .u32 3221225472, .int .u32 3] 47)
  have hl := litW2 w8 3221225472 3 (by decide) (by decide) 47
  change WordsV (w8.alloc (.cells #[.int .u32 3221225472, .int .u32 3] 47)) _ _ at hl
  rw [hw9] at hl
  have hf9 := hf.below e0
  have d0 := cells_cell (i := 0) b4 (v := .int .i64 40) rfl
  have d1 := cells_cell (i := 1) b4 (v := .slice f 2 cf) rfl
  have b49 := (e0.block _ (block_lt b4)).trans b4
  have hb9 := hb.trans (e0.mono hb.size)
  have m1 := refSame_any (n := 40) (m := 40) hf9 hl
  rw [k_same] at m1
  clear e0 e1 b4 b9 hf hb hl
  go_wp2_with fail
  refine m1.mono ?_
  rintro r w10 ⟨rfl, hb10⟩
  replace hf9 := hf9.below hb10
  replace b49 := (hb10.block _ (block_lt b49)).trans b49
  replace hb9 := hb9.trans (hb10.mono hb9.size)
  clear d0 d1 m1 hb10 hw9 hw8
  have d0 := cells_cell (i := 0) b49 (v := .int .i64 40) rfl
  have d1 := cells_cell (i := 1) b49 (v := .slice f 2 cf) rfl
  have m1 := count_any2 (n := 40) hf9
  rw [k_list] at m1
  go_wp2_with fail
  refine m1.mono ?_
  rintro r w11 ⟨rfl, hb11⟩
  replace hb9 := hb9.trans (hb11.mono hb9.size)
  clear m1 hb11 hf9
  go_wp2
  go_ret
  exact ⟨rfl, hb9⟩
end Go.Proofs.YtlncilcoohmlkaaDoor

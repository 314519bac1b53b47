/- Layer bits: the package's errors; Set. -/
import Derived.Test.YtlncilcoohmlkaaDoorU6
import Derived.Test.YtlncilcoohmlkaaDoorIs
import Derived.Test.YtlncilcoohmlkaaDoorSc
import Derived.Deep.RegionHeld3
import Derived.StillTailTactics
import Derived.Deep.RegionWith
import Derived.Laws.ResultCell
namespace Go.Proofs.YtlncilcoohmlkaaDoor
open Go.RowKit
attribute [local go_sem ↓] Go.wp_at_zero Go.wp_at_succ

structure Env2 where
  aB : Addr
  aP : Addr
  aM : Addr
/-- The variables of bits, as the call finds them. -/
structure Glob2 (E : Env2) (w : World) : Prop where
  size : 3 ≤ w.heap.size
  cB : w.cell? ⟨0, 0, none⟩ = some (.iface 80 (.pointer (some E.aB)))
  cP : w.cell? ⟨1, 0, none⟩ = some (.iface 80 (.pointer (some E.aP)))
  cM : w.cell? ⟨2, 0, none⟩ = some (.iface 80 (.pointer (some E.aM)))
  bB : ∃ ca ta, w.heap[E.aB.block]? = some (.cells ca ta (0, 0))
  bP : ∃ ca ta, w.heap[E.aP.block]? = some (.cells ca ta (0, 0))
  bM : ∃ ca ta, w.heap[E.aM.block]? = some (.cells ca ta (0, 0))
  n1 : E.aB ≠ E.aP
  n2 : E.aB ≠ E.aM
  n3 : E.aP ≠ E.aM
theorem Glob2.below {E : Env2} {w w' : World} (h : Glob2 E w) (hb : Below w.heap.size w w') : Glob2 E w' := by
  have hs := h.size
  have c : ∀ g o, g < 3 → w'.cell? ⟨g, o, none⟩ = w.cell? ⟨g, o, none⟩ := fun g o hg => hb.cell (p := ⟨g, o, none⟩) (by simp; omega)
  have k : ∀ {n : Nat}, (∃ ca ta, w.heap[n]? = some (.cells ca ta (0, 0))) → ∃ ca ta, w'.heap[n]? = some (.cells ca ta (0, 0)) := fun ⟨ca, ta, e⟩ => ⟨ca, ta, (hb.block _ (block_lt e)).trans e⟩
  exact ⟨Nat.le_trans hs hb.size, (c _ _ (by decide)).trans h.cB, (c _ _ (by decide)).trans h.cP, (c _ _ (by decide)).trans h.cM, k h.bB, k h.bP, k h.bM, h.n1, h.n2, h.n3⟩

theorem told_B {E : Env2} {w : World} (h : Glob2 E w) : Calls Tryd.prog 36 #[.iface 80 (.pointer (some E.aB))] w fun r w' => r = .returned (.int .i64 20) ∧ w = w' := by
  have k0 := h.cB
  have I := is_same E.aB w
  clear h
  go_enter Tryd.func36, Tryd.ntmps36
  go_wp2_with fail
  refine I.mono ?_
  rintro r w' ⟨rfl, rfl⟩
  go_wp2
  go_ret
  exact ⟨rfl, rfl⟩
theorem told_P {E : Env2} {w : World} (h : Glob2 E w) : Calls Tryd.prog 36 #[.iface 80 (.pointer (some E.aP))] w fun r w' => r = .returned (.int .i64 21) ∧ w = w' := by
  have k0 := h.cB
  have k1 := h.cP
  obtain ⟨c0, t0, b0⟩ := h.bB
  obtain ⟨c1, t1, b1⟩ := h.bP
  have I := is_other _ _ _ _ _ _ w h.n1.symm b1 b0
  have I2 := is_same E.aP w
  clear h b0 b1
  go_enter Tryd.func36, Tryd.ntmps36
  go_wp2_with fail
  refine I.mono ?_
  rintro r w' ⟨rfl, rfl⟩
  go_wp2_with fail
  refine I2.mono ?_
  rintro r w' ⟨rfl, rfl⟩
  go_wp2
  go_ret
  exact ⟨rfl, rfl⟩
theorem told_M {E : Env2} {w : World} (h : Glob2 E w) : Calls Tryd.prog 36 #[.iface 80 (.pointer (some E.aM))] w fun r w' => r = .returned (.int .i64 2) ∧ w = w' := by
  have k0 := h.cB
  have k1 := h.cP
  have k2 := h.cM
  obtain ⟨c0, t0, b0⟩ := h.bB
  obtain ⟨c1, t1, b1⟩ := h.bP
  obtain ⟨c2, t2, b2⟩ := h.bM
  have I := is_other _ _ _ _ _ _ w h.n2.symm b2 b0
  have I1 := is_other _ _ _ _ _ _ w h.n3.symm b2 b1
  have I2 := is_same E.aM w
  clear h b0 b1 b2
  go_enter Tryd.func36, Tryd.ntmps36
  go_wp2_with fail
  refine I.mono ?_
  rintro r w' ⟨rfl, rfl⟩
  go_wp2_with fail
  refine I1.mono ?_
  rintro r w' ⟨rfl, rfl⟩
  go_wp2_with fail
  refine I2.mono ?_
  rintro r w' ⟨rfl, rfl⟩
  go_wp2
  go_ret
  exact ⟨rfl, rfl⟩

theorem results_bits_tmp {fn : Func} {p u : Tmp} (h : fn.results = #[.cell p 24, .tmp u]) (tmps : Array Value) (w : World) (g1 : Nat) (x v : Value)
    (hp : tmps.getD p undef = .pointer (some ⟨g1, 0, none⟩)) (h1 : w.heap[g1]? = some (.cells #[x, v] 24 (0, 0))) :
    (results fn tmps).run Tryd.prog w = .ok (.tuple #[.agg #[x, v], tmps.getD u undef]) w := by
  have hi : (Tryd.prog.info? 24).map (·.size) = some 2 := by kernel_rfl
  have e1 := run_loadVar_row w g1 24 24 #[x, v] (0, 0) _ h1 Tryd.underlying24 rfl hi
  rw [results_cell_tmp h, hp]
  simp [asAddr, e1]

/-- Words with a place turned. -/
def setW (ws : List Nat) (i : Nat) (on : Bool) : List Nat := (List.range ws.length).map (setF on (fun j => ws.getD j 0) i)
/-- The bits that are none. -/
def noBits : Value := .agg #[.int .i64 0, .slice none 0 0]

set_option maxHeartbeats 2000000 in
set_option maxRecDepth 20000 in
theorem set_wrong {E : Env2} {w : World} (hGl : Glob2 E w) {n : Int} {v : Value} {ws : List Nat} (hv : WordsV w v ws) (hr : rightB n ws = false) (i : Int) (on : Bool) :
    Calls Tryd.prog 13 #[.agg #[.int .i64 n, v], .int .i64 i, .bool on] w fun r w' => r = .returned (.tuple #[noBits, .int .i64 20]) ∧ Below w.heap.size w w' := by
  obtain ⟨w1, hw1, a0, a1, a2, a3⟩ := allocs2 w (.cells #[.int .i64 n, v] 24) (.cells #[.int .i64 0, .slice none 0 0] 24)
  have R := right_any2 (n := n) (hv.below a0)
  rw [hr] at R
  have hG1 := hGl.below a0
  have k0 := hG1.cB
  have c0 := cells_cell (i := 0) a2 (v := .int .i64 n) rfl
  have c1 := cells_cell (i := 1) a2 (v := v) rfl
  obtain ⟨a, cap, rfl⟩ := hv.slice
  have H1 := Lib.hid hw1
  clear hw1 hv hr a1 hGl
  go_enter Tryd.func13, Tryd.ntmps13
  go_wp2
  rw [H1.out]
  refine wp_scope_ahead 0 rfl ?_
  go_wp2_with fail
  refine R.mono ?_
  rintro r w2 ⟨rfl, hb2⟩
  have T := told_B (hG1.below hb2)
  have b3 := (hb2.block _ (block_lt a3)).trans a3
  have hB2 := a0.trans (hb2.mono a0.size)
  clear R k0 c0 c1 a0 a2 a3 hG1 hb2 H1
  go_wp2
  refine wp_goto ?_
  refine ⟨rfl, ?_⟩
  go_wp2_with fail
  refine T.mono ?_
  rintro r w3 ⟨rfl, rfl⟩
  have d0 := cells_cell (i := 0) b3 (v := .int .i64 0) rfl
  have d1 := cells_cell (i := 1) b3 (v := .slice none 0 0) rfl
  have d2 := cells_free (i := 0) b3
  have d3 := cells_free (i := 1) b3
  have e3 := heap_setCell_same (i := 1) (.slice none 0 0) (heap_setCell_same (i := 0) (.int .i64 0) b3)
  have hbb := (hB2.setCell (p := ⟨w.heap.size + 1, 0, none⟩) (by show w.heap.size ≤ w.heap.size + 1; omega) (.int .i64 0)).setCell (p := ⟨w.heap.size + 1, 1, none⟩) (by show w.heap.size ≤ w.heap.size + 1; omega) (.slice none 0 0)
  have E3 := Lib.hid e3
  have HBB := Lib.hid hbb
  clear T b3 e3 hbb hB2
  go_wp2
  rw [Exit.noGoto_ret]
  exact bodyPost_ret (results_bits_tmp rfl _ _ (w.heap.size + 1) _ _ rfl E3.out) rfl ⟨rfl, HBB.out⟩

set_option maxHeartbeats 2000000 in
set_option maxRecDepth 20000 in
theorem set_place {E : Env2} {w : World} (hGl : Glob2 E w) {n : Int} {v : Value} {ws : List Nat} (hv : WordsV w v ws) (hr : rightB n ws = true) (i : Int) (hi : i < 0 ∨ n ≤ i) (on : Bool) :
    Calls Tryd.prog 13 #[.agg #[.int .i64 n, v], .int .i64 i, .bool on] w fun r w' => r = .returned (.tuple #[noBits, .int .i64 21]) ∧ Below w.heap.size w w' := by
  obtain ⟨w1, hw1, a0, a1, a2, a3⟩ := allocs2 w (.cells #[.int .i64 n, v] 24) (.cells #[.int .i64 0, .slice none 0 0] 24)
  have R := right_any2 (n := n) (hv.below a0)
  rw [hr] at R
  have hG1 := hGl.below a0
  have k0 := hG1.cB
  have c0 := cells_cell (i := 0) a2 (v := .int .i64 n) rfl
  have c1 := cells_cell (i := 1) a2 (v := v) rfl
  obtain ⟨a, cap, rfl⟩ := hv.slice
  have H1 := Lib.hid hw1
  clear hw1 hv hr a1 hGl
  go_enter Tryd.func13, Tryd.ntmps13
  go_wp2
  rw [H1.out]
  refine wp_scope_ahead 0 rfl ?_
  go_wp2_with fail
  refine R.mono ?_
  rintro r w2 ⟨rfl, hb2⟩
  have hG2 := hG1.below hb2
  have T := told_P hG2
  have k1 := hG2.cP
  have b2 := (hb2.block _ (block_lt a2)).trans a2
  have b3 := (hb2.block _ (block_lt a3)).trans a3
  have hB2 := a0.trans (hb2.mono a0.size)
  have q0 := cells_cell (i := 0) b2 (v := .int .i64 n) rfl
  clear R k0 c0 c1 a0 a2 a3 hG1 hG2 hb2 H1 b2
  by_cases h0 : i < 0
  · have g0 : decide (i < 0) = true := decide_eq_true h0
    clear hi
    go_wp2
    refine wp_goto ?_
    refine ⟨rfl, ?_⟩
    go_wp2_with fail
    refine T.mono ?_
    rintro r w3 ⟨rfl, rfl⟩
    have d0 := cells_cell (i := 0) b3 (v := .int .i64 0) rfl
    have d1 := cells_cell (i := 1) b3 (v := .slice none 0 0) rfl
    have d2 := cells_free (i := 0) b3
    have d3 := cells_free (i := 1) b3
    have e3 := heap_setCell_same (i := 1) (.slice none 0 0) (heap_setCell_same (i := 0) (.int .i64 0) b3)
    have hbb := (hB2.setCell (p := ⟨w.heap.size + 1, 0, none⟩) (by show w.heap.size ≤ w.heap.size + 1; omega) (.int .i64 0)).setCell (p := ⟨w.heap.size + 1, 1, none⟩) (by show w.heap.size ≤ w.heap.size + 1; omega) (.slice none 0 0)
    have E3 := Lib.hid e3
    have HBB := Lib.hid hbb
    clear T b3 e3 hbb hB2
    go_wp2
    rw [Exit.noGoto_ret]
    exact bodyPost_ret (results_bits_tmp rfl _ _ (w.heap.size + 1) _ _ rfl E3.out) rfl ⟨rfl, HBB.out⟩
  · have g0 : decide (i < 0) = false := decide_eq_false (by omega)
    have g1 : decide (n ≤ i) = true := decide_eq_true (by omega)
    clear hi
    go_wp2
    refine wp_goto ?_
    refine ⟨rfl, ?_⟩
    go_wp2_with fail
    refine T.mono ?_
    rintro r w3 ⟨rfl, rfl⟩
    have d0 := cells_cell (i := 0) b3 (v := .int .i64 0) rfl
    have d1 := cells_cell (i := 1) b3 (v := .slice none 0 0) rfl
    have d2 := cells_free (i := 0) b3
    have d3 := cells_free (i := 1) b3
    have e3 := heap_setCell_same (i := 1) (.slice none 0 0) (heap_setCell_same (i := 0) (.int .i64 0) b3)
    have hbb := (hB2.setCell (p := ⟨w.heap.size + 1, 0, none⟩) (by show w.heap.size ≤ w.heap.size + 1; omega) (.int .i64 0)).setCell (p := ⟨w.heap.size + 1, 1, none⟩) (by show w.heap.size ≤ w.heap.size + 1; omega) (.slice none 0 0)
    have E3 := Lib.hid e3
    have HBB := Lib.hid hbb
    clear T b3 e3 hbb hB2
    go_wp2
    rw [Exit.noGoto_ret]
    exact bodyPost_ret (results_bits_tmp rfl _ _ (w.heap.size + 1) _ _ rfl E3.out) rfl ⟨rfl, HBB.out⟩

set_option maxHeartbeats 2000000 in
set_option maxRecDepth 20000 in
theorem set_right {E : Env2} {w : World} (hGl : Glob2 E w) {N : Nat} {a : Option Addr} {cap : Nat} {ws : List Nat} (hv : WordsV w (.slice a ws.length cap) ws) (hr : rightB (N : Int) ws = true) (hN : N ≤ 32 * ws.length) (hN2 : N ≤ 20000) (hl : ws.length ≤ 1000) (i : Nat) (hi : i < N) (on : Bool) :
    Calls Tryd.prog 13 #[.agg #[.int .i64 (N : Int), .slice a ws.length cap], .int .i64 (i : Int), .bool on] w fun r w' => (∃ v', r = .returned (.tuple #[.agg #[.int .i64 (N : Int), v'], .int .i64 0]) ∧ WordsV w' v' (setW ws i on)) ∧ Below w.heap.size w w' := by
  obtain ⟨w1, hw1, a0, a1, a2, a3⟩ := allocs2 w (.cells #[.int .i64 (N : Int), .slice a ws.length cap] 24) (.cells #[.int .i64 0, .slice none 0 0] 24)
  have R := right_any2 (n := (N : Int)) (hv.below a0)
  rw [hr] at R
  have hG1 := hGl.below a0
  have k0 := hG1.cB
  have c0 := cells_cell (i := 0) a2 (v := .int .i64 (N : Int)) rfl
  have c1 := cells_cell (i := 1) a2 (v := .slice a ws.length cap) rfl
  have HV := Lib.hid (hv.below a0)
  have H1 := Lib.hid hw1
  clear hw1 hv hr a1 hGl
  go_enter Tryd.func13, Tryd.ntmps13
  go_wp2
  rw [H1.out]
  refine wp_scope_ahead 0 rfl ?_
  go_wp2_with fail
  refine R.mono ?_
  rintro r w2 ⟨rfl, hb2⟩
  have hG2 := hG1.below hb2
  have k1 := hG2.cP
  have b2 := (hb2.block _ (block_lt a2)).trans a2
  have b3 := (hb2.block _ (block_lt a3)).trans a3
  have hB2 := a0.trans (hb2.mono a0.size)
  have q0 := cells_cell (i := 0) b2 (v := .int .i64 (N : Int)) rfl
  have q1 := cells_cell (i := 1) b2 (v := .slice a ws.length cap) rfl
  obtain ⟨W3, hW3, x0, x1, x2, x3, x4⟩ := allocs3 w2 (.cells #[.int .i64 (i : Int)] 3) (.cells #[.bool on] 4) (.cells #[.func (.func 45) #[] #[.pointer (some ⟨w2.heap.size, 0, none⟩), .pointer (some ⟨w2.heap.size + 1, 0, none⟩)]] 52)
  have xb : Below w2.heap.size w2 W3.drew := x0.drew
  have hTV : TurnsV W3.drew (.slice (some ⟨w2.heap.size + 1 + 1, 0, none⟩) 1 1) [i] on := by
    refine ⟨some ⟨w2.heap.size + 1 + 1, 0, none⟩, 1, rfl, fun j hj => ?_⟩
    obtain rfl : j = 0 := by simpa using hj
    exact ⟨_, 0, w2.heap.size, w2.heap.size + 1, rfl, cells_cell x4 rfl, cells_cell x2 rfl, cells_cell x3 rfl⟩
  have CH := changed_any (N := (N : Int)) ((HV.out.below hb2).below xb) hTV (by omega) hl (by simp) (fun j hj => by obtain rfl : j = 0 := (by simpa using hj); exact ⟨(by show i < _; omega), (by show i ≤ _; omega)⟩)
  have b3' := (xb.block _ (block_lt b3)).trans b3
  have hB3 := hB2.trans (xb.mono hB2.size)
  have hltw : w.heap.size + 1 < w2.heap.size := block_lt b3
  have g0 : decide ((i : Int) < 0) = false := decide_eq_false (by omega)
  have g1 : decide ((N : Int) ≤ (i : Int)) = false := decide_eq_false (by omega)
  have g2 : decide (N ≤ i) = false := decide_eq_false (by omega)
  have bA : Below w2.heap.size w2 ((w2.alloc (.cells #[.int .i64 (i : Int)] 3)).alloc (.cells #[.bool on] 4)) := ((Below.refl _ w2).alloc (Nat.le_refl _) _).alloc (by simp) _
  have r0 := (bA.cell (p := ⟨w.heap.size, 0, none⟩) (cell_lt q0)).trans q0
  have r1 := (bA.cell (p := ⟨w.heap.size, 1, none⟩) (cell_lt q1)).trans q1
  have bC := bA.alloc (by simp; omega) (.cells #[.func (.func 45) #[] #[.pointer (some ⟨w2.heap.size, 0, none⟩), .pointer (some ⟨w2.heap.size + 1, 0, none⟩)]] 52)
  have s0 := (bC.cell (p := ⟨w.heap.size, 0, none⟩) (cell_lt q0)).trans q0
  have s1 := (bC.cell (p := ⟨w.heap.size, 1, none⟩) (cell_lt q1)).trans q1
  have HC := Lib.hid CH
  have HW3 := Lib.hid hW3
  have B3 := Lib.hid b3'
  have HB3 := Lib.hid hB3
  clear bA bC R k0 c0 c1 a0 a2 a3 hG1 hG2 hb2 H1 b2 hB2 b3 hW3 x0 x1 x2 x3 x4 xb hTV CH b3' hB3 HV
  go_wp2
  go_region_with (first | (go_at_call 35; refine (turn_any _ _ _).mono ?_; rintro r w' ⟨rfl, rfl⟩) | (go_at_call 34; (try rw [HW3.out]); refine HC.out.mono ?_; rintro r w' ⟨⟨g9, cap9, rfl, hv9, hg9⟩, hb9⟩; have b9 := (hb9.block _ (block_lt B3.out)).trans B3.out; have d0 := cells_cell (i := 0) b9 (v := .int .i64 0) rfl; have d1 := cells_cell (i := 1) b9 (v := .slice none 0 0) rfl; have d2 := cells_free (i := 0) b9; have d3 := cells_free (i := 1) b9))
  all_goals
    have hsz9 : w.heap.size + 1 < g9 := by have := block_lt B3.out; omega
    have e3 := heap_setCell_same (i := 1) (.slice (some ⟨g9, 0, none⟩) ws.length cap9) (heap_setCell_same (i := 0) (.int .i64 (N : Int)) b9)
    have hbb := ((HB3.out.trans (hb9.mono HB3.out.size)).setCell (p := ⟨w.heap.size + 1, 0, none⟩) (by show w.heap.size ≤ w.heap.size + 1; omega) (.int .i64 (N : Int))).setCell (p := ⟨w.heap.size + 1, 1, none⟩) (by show w.heap.size ≤ w.heap.size + 1; omega) (.slice (some ⟨g9, 0, none⟩) ws.length cap9)
    have hv10 := (hv9.set (by simp) (w.heap.size + 1) 0 (.int .i64 (N : Int)) (by omega)).set (by simp) (w.heap.size + 1) 1 (.slice (some ⟨g9, 0, none⟩) ws.length cap9) (by omega)
    have E3 := Lib.hid e3
    have HBB := Lib.hid hbb
    have HV10 := Lib.hid hv10
    clear b9 d0 d1 d2 d3 e3 hbb hv10 hv9 hb9 q0 q1 r0 r1 s0 s1
    go_wp2
    rw [Exit.aheadP_ret]
    exact bodyPost_ret (results_bits_tmp rfl _ _ (w.heap.size + 1) _ _ rfl E3.out) rfl ⟨⟨_, rfl, HV10.out⟩, HBB.out⟩

/-- What Set answers. -/
def setE (n : Int) (ws : List Nat) (i : Int) : Int := bif rightB n ws then bif decide (0 ≤ i) && decide (i < n) then 0 else 21 else 20
def setN (n : Int) (ws : List Nat) (i : Int) : Int := bif rightB n ws && (decide (0 ≤ i) && decide (i < n)) then n else 0
def setL (n : Int) (ws : List Nat) (i : Int) (on : Bool) : List Nat := bif rightB n ws && (decide (0 ≤ i) && decide (i < n)) then setW ws i.toNat on else []
theorem set_any {E : Env2} {w : World} (hGl : Glob2 E w) {n : Int} {v : Value} {ws : List Nat} (hv : WordsV w v ws) (i : Int) (on : Bool) :
    Calls Tryd.prog 13 #[.agg #[.int .i64 n, v], .int .i64 i, .bool on] w fun r w' => (∃ v', r = .returned (.tuple #[.agg #[.int .i64 (setN n ws i), v'], .int .i64 (setE n ws i)]) ∧ WordsV w' v' (setL n ws i on)) ∧ Below w.heap.size w w' := by
  unfold setE setN setL
  cases hr : rightB n ws with
  | false => exact (set_wrong hGl hv hr i on).mono fun r w' ⟨h1, h2⟩ => ⟨⟨_, h1, .empty none 0⟩, h2⟩
  | true =>
    by_cases hi : 0 ≤ i ∧ i < n
    · rw [decide_eq_true hi.1, decide_eq_true hi.2]
      obtain ⟨N, rfl, h1, h2, h3⟩ := rightB_iff hr
      obtain ⟨k, rfl⟩ : ∃ k : Nat, i = k := ⟨i.toNat, by omega⟩
      obtain ⟨a, cap, rfl⟩ := hv.slice
      rw [Int.toNat_natCast]
      exact set_right hGl hv hr (by omega) h1 (by omega) k (by omega) on
    · have e : (decide (0 ≤ i) && decide (i < n)) = false := by
        rw [Bool.and_eq_false_iff, decide_eq_false_iff_not, decide_eq_false_iff_not]
        omega
      rw [e]
      exact (set_place hGl hv hr i (by omega) on).mono fun r w' ⟨h1, h2⟩ => ⟨⟨_, h1, .empty none 0⟩, h2⟩
end Go.Proofs.YtlncilcoohmlkaaDoor

/- Layer bits: Make; the document's Same; bits cut. -/
import Derived.Test.YtlncilcoohmlkaaDoorU8
import Derived.Laws.MakeOwn
import Derived.Laws.OwnMore
namespace Go.Proofs.YtlncilcoohmlkaaDoor
open Go.RowKit
attribute [local go_sem ↓] Go.wp_at_zero Go.wp_at_succ
attribute [local go_sem ↓] run_max_int run_min_int

theorem run_makeW (w : World) (k : Nat) (hk : k ≤ 100000) : (Instr.makeSlice 22 (.int .i64 (k : Int)) (.int .i64 (k : Int))).run Tryd.prog w = .ok (.slice (some ⟨w.heap.size, 0, none⟩) k k) (w.alloc (.cells (madeCells #[.int .u32 0] k) 47)) := by
  obtain ⟨i0, hi, hz0, hz1, hz2⟩ := info_parts u32Info
  have := run_make (P := Tryd.prog) w 22 47 i0 (.int .u32 0) Tryd.underlying22 hi hz0 .i64 .i64 (k : Int) (k : Int) (by omega) (Int.le_refl _) (by rw [hz2]; omega) (by omega)
  rw [hz1] at this
  simpa [Value.cells] using this
theorem madeW (k j : Nat) (hj : j < k) : (madeCells #[.int .u32 0] k)[j]? = some (.int .u32 ((0 : Nat) : Int)) := by
  have := toList_madeCells_one (.int .u32 0) k
  rw [← Array.getElem?_toList, this, List.getElem?_replicate, if_pos hj]
  rfl

def makeB (n : Int) : Bool := decide (0 ≤ n) && decide (n ≤ 20000)
def makeE (n : Int) : Int := bif makeB n then 0 else 2
def makeN (n : Int) : Int := bif makeB n then n else 0
def makeL (n : Int) : List Nat := bif makeB n then List.replicate ((n.toNat + 31) / 32) 0 else []

set_option maxHeartbeats 1000000 in
theorem make_wrong2 {E : Env2} {w : World} (hGl : Glob2 E w) (n : Int) (hn : n < 0 ∨ 20000 < n) :
    Calls Tryd.prog 27 #[.int .i64 n] w fun r w' => r = .returned (.tuple #[noBits, .int .i64 2]) ∧ Below w.heap.size w w' := by
  obtain ⟨w1, hw1, a0, a1, a2⟩ := allocs1 w (.cells #[.int .i64 0, .slice none 0 0] 24)
  have hG1 := hGl.below a0
  have k2 := hG1.cM
  have T := told_M hG1
  have d0 := cells_cell (i := 0) a2 (v := .int .i64 0) rfl
  have d1 := cells_cell (i := 1) a2 (v := .slice none 0 0) rfl
  have d2 := cells_free (i := 0) a2
  have d3 := cells_free (i := 1) a2
  have e3 := heap_setCell_same (i := 1) (.slice none 0 0) (heap_setCell_same (i := 0) (.int .i64 0) a2)
  have hbb := (a0.setCell (p := ⟨w.heap.size, 0, none⟩) (Nat.le_refl _) (.int .i64 0)).setCell (p := ⟨w.heap.size, 1, none⟩) (Nat.le_refl _) (.slice none 0 0)
  have E3 := Lib.hid e3
  have HBB := Lib.hid hbb
  clear e3 hbb a0 a1 a2 hG1 hGl
  by_cases h0 : n < 0
  · have g0 : decide (n < 0) = true := decide_eq_true h0
    clear hn
    go_enter Tryd.func27, Tryd.ntmps27
    go_wp2_with fail
    refine T.mono ?_
    rintro r w' ⟨rfl, rfl⟩
    clear T
    go_wp2
    exact bodyPost_ret (results_bits_tmp rfl _ _ w.heap.size _ _ rfl E3.out) rfl ⟨rfl, HBB.out⟩
  · have g0 : decide (n < 0) = false := decide_eq_false (by omega)
    have g1 : decide (20000 < n) = true := decide_eq_true (by omega)
    clear hn
    go_enter Tryd.func27, Tryd.ntmps27
    go_wp2_with fail
    refine T.mono ?_
    rintro r w' ⟨rfl, rfl⟩
    clear T
    go_wp2
    exact bodyPost_ret (results_bits_tmp rfl _ _ w.heap.size _ _ rfl E3.out) rfl ⟨rfl, HBB.out⟩

set_option maxHeartbeats 1000000 in
theorem make_right2 {w : World} (N : Nat) (hN : N ≤ 20000) :
    Calls Tryd.prog 27 #[.int .i64 (N : Int)] w fun r w' => (∃ v', r = .returned (.tuple #[.agg #[.int .i64 (N : Int), v'], .int .i64 0]) ∧ WordsV w' v' (List.replicate ((N + 31) / 32) 0)) ∧ Below w.heap.size w w' := by
  have hk : (N + 31) / 32 ≤ 100000 := by omega
  have W0 := words_any (N : Int) (w.alloc (.cells #[.int .i64 0, .slice none 0 0] 24)) (by omega) (by omega)
  rw [show ((N : Int) + 31) / 32 = (((N + 31) / 32 : Nat) : Int) by omega] at W0
  have hmk := fun w => run_makeW w ((N + 31) / 32) hk
  generalize (N + 31) / 32 = k at *
  have g0 : decide ((N : Int) < 0) = false := decide_eq_false (by omega)
  have g1 : decide ((20000 : Int) < (N : Int)) = false := decide_eq_false (by omega)
  have g2 : decide (20000 < N) = false := decide_eq_false (by omega)
  obtain ⟨w2, hw2, a0, a1, a2, a3⟩ := allocs2 w (.cells #[.int .i64 (N : Int), .slice (some ⟨w.heap.size + 1, 0, none⟩) k k] 24) (.cells (madeCells #[.int .u32 0] k) 47)
  have hA := ArW.made (n := k) (cap := k) (f := fun _ => 0) a3 (size_madeCells _ _) (fun j hj => madeW k j hj) (Nat.le_refl _) (by omega)
  have hv := hA.words (List.replicate k 0) (by simp) (fun i => by simp [List.getD, List.getElem?_replicate]; split <;> simp) (fun j hj => by simp [List.getD, hj])
  have H2 := Lib.hid hw2
  have HV := Lib.hid hv
  have A2 := Lib.hid a2
  clear hw2 hA hv a1 a2 a3
  go_enter Tryd.func27, Tryd.ntmps27
  go_wp2_with fail
  refine W0.mono ?_
  rintro r w' ⟨rfl, rfl⟩
  clear W0
  go_wp2
  rw [H2.out]
  exact bodyPost_ret (results_bits_tmp rfl _ _ w.heap.size _ _ rfl A2.out) rfl ⟨⟨_, rfl, HV.out⟩, a0⟩

theorem make_any2 {E : Env2} {w : World} (hGl : Glob2 E w) (n : Int) :
    Calls Tryd.prog 27 #[.int .i64 n] w fun r w' => (∃ v', r = .returned (.tuple #[.agg #[.int .i64 (makeN n), v'], .int .i64 (makeE n)]) ∧ WordsV w' v' (makeL n)) ∧ Below w.heap.size w w' := by
  unfold makeN makeE makeL
  by_cases h : 0 ≤ n ∧ n ≤ 20000
  · have e : makeB n = true := by unfold makeB; rw [decide_eq_true h.1, decide_eq_true h.2]; rfl
    rw [e]
    obtain ⟨N, rfl⟩ : ∃ N : Nat, n = N := ⟨n.toNat, by omega⟩
    rw [Int.toNat_natCast]
    exact make_right2 N (by omega)
  · have e : makeB n = false := by unfold makeB; rw [Bool.and_eq_false_iff, decide_eq_false_iff_not, decide_eq_false_iff_not]; omega
    rw [e]
    exact (make_wrong2 hGl n (by omega)).mono fun r w' ⟨h1, h2⟩ => ⟨⟨_, h1, .empty none 0⟩, h2⟩

theorem ne_of_getDW {l m : List Nat} {k : Nat} (h : l.getD k 0 ≠ m.getD k 0) : l ≠ m := fun e => h (by rw [e])
theorem eq_of_getDW {l m : List Nat} (h1 : l.length = m.length) (h : ∀ k, k < l.length → l.getD k 0 = m.getD k 0) : l = m := by
  apply List.ext_getElem h1
  intro i hi hi'
  have := h i hi
  simpa [List.getD, hi, hi'] using this

/-- Are two bits the same? -/
def sameB (n : Int) (ws : List Nat) (m : Int) (us : List Nat) : Bool := decide (n = m) && decide (ws = us)

set_option maxHeartbeats 1000000 in
set_option maxRecDepth 20000 in
theorem refSame_any {w : World} {n m : Int} {v u : Value} {ws us : List Nat} (hv : WordsV w v ws) (hu : WordsV w u us) :
    Calls Tryd.prog 25 #[.agg #[.int .i64 n, v], .agg #[.int .i64 m, u]] w fun r w' => r = .returned (.bool (sameB n ws m us)) ∧ Below w.heap.size w w' := by
  obtain ⟨w1, hw1, a0, a1, a2, a3⟩ := allocs2 w (.cells #[.int .i64 n, v] 24) (.cells #[.int .i64 m, u] 24)
  have c0 := cells_cell (i := 0) a2 (v := .int .i64 n) rfl
  have c1 := cells_cell (i := 1) a2 (v := v) rfl
  have c2 := cells_cell (i := 0) a3 (v := .int .i64 m) rfl
  have c3 := cells_cell (i := 1) a3 (v := u) rfl
  have HV := Lib.hid (hv.below a0)
  have HU := Lib.hid (hu.below a0)
  obtain ⟨a, cap, rfl⟩ := hv.slice
  obtain ⟨b, cap', rfl⟩ := hu.slice
  have hlen := hv.len
  by_cases hn : n = m
  · subst hn
    by_cases hl : ws.length = us.length
    · have e : sameB n ws n us = decide (ws = us) := by unfold sameB; rw [decide_eq_true rfl]; rfl
      rw [e]
      rw [← hl] at c3 hw1 HU ⊢
      have HL := Lib.hid hl
      clear hl e hv hu a1
      go_enter Tryd.func25, Tryd.ntmps25
      go_wp2
      clear hw1
      go_loopw [5] (fun i W => ∃ k : Nat, k ≤ ws.length ∧ i = .int .i64 k ∧ (∀ j, j < k → ws.getD j 0 = us.getD j 0) ∧ Below w1.heap.size w1 W) (fun i _ => ws.length - (intOf i).toNat)
      case atStart => exact ⟨0, Nat.zero_le _, rfl, fun j hj => by omega, Below.refl _ _⟩
      case round =>
        obtain ⟨k, hk, rfl, hp, hB⟩ := hrel
        have HP := Lib.hid hp
        clear hp
        have d1 := (hB.cell (p := ⟨w.heap.size, 1, none⟩) (cell_lt c1)).trans c1
        have d3 := (hB.cell (p := ⟨w.heap.size + 1, 1, none⟩) (cell_lt c3)).trans c3
        by_cases hlt : k < ws.length
        · obtain ⟨b1, o1, rfl, f1⟩ := (HV.out.below hB).at_ k hlt
          have hlt' := hlt
          rw [HL.out] at hlt'
          have hu' := HU.out.below hB
          rw [HL.out] at hu'
          obtain ⟨b2, o2, rfl, f2⟩ := hu'.at_ k hlt'
          generalize hx : ws.getD k 0 = x at f1
          generalize hy : us.getD k 0 = y at f2
          have HX := Lib.hid hx
          have HY := Lib.hid hy
          clear hx hy hu' hlt'
          have i1 : (0 : Int) ≤ (k : Int) := by omega
          have i2 : (k : Int) < (ws.length : Int) := by omega
          by_cases e : x = y
          · subst e
            have ge : (((x : Nat) : Int) != ((x : Nat) : Int)) = false := by simp
            go_wp2
            go_quiet (fail)
            clear i1 i2
            go_wp2
            go_round
            case rel => exact ⟨k + 1, by omega, by go_num, fun j hj => by by_cases hjk : j = k; (subst hjk; rw [HX.out, HY.out]); exact HP.out j (by omega), by first | exact hB | exact below_drewN hB _⟩
            case measure => simp [intOf]; omega
          · have ge : (((x : Nat) : Int) != ((y : Nat) : Int)) = true := by simp; omega
            have hne : ws ≠ us := ne_of_getDW (k := k) (by rw [HX.out, HY.out]; exact e)
            have HE := Lib.hid e
            have HNE := Lib.hid hne
            clear e hne
            go_wp2
            go_quiet (fail)
            clear i1 i2
            go_wp2
            go_ret
            exact ⟨by rw [decide_eq_false HNE.out]; rfl, by first | exact a0.trans (hB.mono a0.size) | exact below_drewN (a0.trans (hB.mono a0.size)) _⟩
        · have hle : ws.length ≤ k := by omega
          have heq : ws = us := eq_of_getDW HL.out (fun j hj => HP.out j (by omega))
          have HEQ := Lib.hid heq
          clear heq
          go_wp2
          go_ret
          exact ⟨by rw [decide_eq_true HEQ.out]; rfl, a0.trans (hB.mono a0.size)⟩
    · have e : sameB n ws n us = false := by unfold sameB; rw [decide_eq_false (p := ws = us) (fun h => hl (by rw [h])), Bool.and_false]
      rw [e]
      have g1 : ((ws.length : Int) != (us.length : Int)) = true := by simp; omega
      have g2 : (n != n) = false := by simp
      have HL := Lib.hid hl
      clear hl e hv hu a1
      go_enter Tryd.func25, Tryd.ntmps25
      go_wp2
      go_ret
      exact ⟨rfl, a0⟩
  · have e : sameB n ws m us = false := by unfold sameB; rw [decide_eq_false hn]; rfl
    rw [e]
    have g1 : (n != m) = true := by simpa using hn
    have HN := Lib.hid hn
    clear hn e hv hu a1
    go_enter Tryd.func25, Tryd.ntmps25
    go_wp2
    go_ret
    exact ⟨rfl, a0⟩

set_option maxHeartbeats 1000000 in
set_option maxRecDepth 20000 in
theorem cut_any2 {w : World} {n : Int} {v : Value} {ws : List Nat} (hv : WordsV w v ws) :
    Calls Tryd.prog 12 #[.agg #[.int .i64 n, v]] w fun r w' => (∃ v', r = .returned (.agg #[.int .i64 n, v']) ∧ WordsV w' v' (ws.take 12)) ∧ Below w.heap.size w w' := by
  obtain ⟨w1, hw1, a0, a1, a2, a3⟩ := allocs2 w (.cells #[.int .i64 n, v] 24) (.cells #[.int .i64 0, .slice none 0 0] 24)
  have c0 := cells_cell (i := 0) a2 (v := .int .i64 n) rfl
  have c1 := cells_cell (i := 1) a2 (v := v) rfl
  have d0 := cells_cell (i := 0) a3 (v := .int .i64 0) rfl
  have d1 := cells_cell (i := 1) a3 (v := .slice none 0 0) rfl
  have d2 := cells_free (i := 0) a3
  have d3 := cells_free (i := 1) a3
  have H1 := Lib.hid hw1
  have hsz : w1.heap.size = w.heap.size + 2 := a1
  have HV := Lib.hid (hv.below a0)
  cases hv with
  | empty a cap =>
    have e3 := heap_setCell_same (i := 1) (.slice a 0 cap) (heap_setCell_same (i := 0) (.int .i64 n) a3)
    have hbb := (a0.setCell (p := ⟨w.heap.size + 1, 0, none⟩) (by show w.heap.size ≤ w.heap.size + 1; omega) (.int .i64 n)).setCell (p := ⟨w.heap.size + 1, 1, none⟩) (by show w.heap.size ≤ w.heap.size + 1; omega) (.slice a 0 cap)
    have E3 := Lib.hid e3
    have HB := Lib.hid hbb
    have hm0 : min (0 : Int) 12 = 0 := by decide
    clear hw1 a0 a1 a2 a3 hsz e3 hbb
    go_enter Tryd.func12, Tryd.ntmps12
    go_wp2_with fail
    rw [H1.out]
    refine wp_region_still_tail 10 (by kernel_rfl) (by kernel_rfl) ?_
    simp only [List.take_succ_cons, List.take_zero, List.drop_succ_cons, List.drop_zero]
    repeat still_step
    refine wpStill_nil ?_
    change wpList _ _ _ _ _ w1.drew
    go_wp2
    exact bodyPost_ret (results_bits rfl _ _ (w.heap.size + 1) _ _ rfl E3.out) rfl ⟨⟨_, rfl, .empty _ _⟩, HB.out.drew⟩
  | some b off cap l hl hm hw hc =>
    have hn : min (ws.length : Int) 12 = ((min ws.length 12 : Nat) : Int) := by omega
    have hle : (min ws.length 12 : Nat) ≤ cap := by omega
    have hblt : ∀ i, i < ws.length → b < w.heap.size := fun i hi => cell_lt (hc i hi)
    have e3 := heap_setCell_same (i := 1) (.slice (Option.some ⟨b, off, none⟩) (min ws.length 12) cap) (heap_setCell_same (i := 0) (.int .i64 n) a3)
    have hbb := (a0.setCell (p := ⟨w.heap.size + 1, 0, none⟩) (by show w.heap.size ≤ w.heap.size + 1; omega) (.int .i64 n)).setCell (p := ⟨w.heap.size + 1, 1, none⟩) (by show w.heap.size ≤ w.heap.size + 1; omega) (.slice (Option.some ⟨b, off, none⟩) (min ws.length 12) cap)
    have hv2 : WordsV (((w1.setCell ⟨w.heap.size + 1, 0, none⟩ (.int .i64 n)).setCell ⟨w.heap.size + 1, 1, none⟩ (.slice (Option.some ⟨b, off, none⟩) (min ws.length 12) cap)).drew) (.slice (Option.some ⟨b, off, none⟩) (min ws.length 12) cap) (ws.take 12) := by
      have e := WordsV.some (w := ((w1.setCell ⟨w.heap.size + 1, 0, none⟩ (.int .i64 n)).setCell ⟨w.heap.size + 1, 1, none⟩ (.slice (Option.some ⟨b, off, none⟩) (min ws.length 12) cap)).drew) b off cap (ws.take 12) (by simp; omega) hm (fun i => by
        by_cases h : i < 12
        · have : (ws.take 12).getD i 0 = ws.getD i 0 := by simp [List.getD, h]
          rw [this]; exact hw i
        · have : (ws.take 12).getD i 0 = 0 := by simp [List.getD, List.getElem?_take, h]
          rw [this]; decide) (fun i hi => by
        have hi' : i < ws.length ∧ i < 12 := by simp at hi; omega
        refine (hbb.drew.cell (p := ⟨b, off + i, none⟩) (cell_lt (hc i hi'.1))).trans ?_
        rw [hc i hi'.1]
        simp [List.getD, hi'.2])
      rw [List.length_take] at e
      rw [show min 12 ws.length = min ws.length 12 from Nat.min_comm _ _] at e
      exact e
    have E3 := Lib.hid e3
    have HB := Lib.hid hbb
    have HV2 := Lib.hid hv2
    clear hw1 a0 a1 a2 a3 hsz e3 hbb hv2 hc hw hblt
    go_enter Tryd.func12, Tryd.ntmps12
    go_wp2_with fail
    rw [H1.out]
    refine wp_region_still_tail 10 (by kernel_rfl) (by kernel_rfl) ?_
    simp only [List.take_succ_cons, List.take_zero, List.drop_succ_cons, List.drop_zero]
    repeat still_step
    refine wpStill_nil ?_
    change wpList _ _ _ _ _ w1.drew
    go_wp2
    exact bodyPost_ret (results_bits rfl _ _ (w.heap.size + 1) _ _ rfl E3.out) rfl ⟨⟨_, rfl, HV2.out⟩, HB.out.drew⟩
end Go.Proofs.YtlncilcoohmlkaaDoor

/- Layer bits: the document's answer: Has, List, Count, Make. -/
import Derived.Test.YtlncilcoohmlkaaDoorV1
import Derived.Test.YtlncilcoohmlkaaDoorU3
namespace Go.Proofs.YtlncilcoohmlkaaDoor
open Go.RowKit
attribute [local go_sem ↓] Go.wp_at_zero Go.wp_at_succ

set_option maxHeartbeats 400000 in
theorem hasRef_any {w : World} {n : Int} {v : Value} {ws : List Nat} (hv : WordsV w v ws) (hlen : ws.length ≤ 20000) (i : Int) :
    Calls Tryd.prog 30 #[.agg #[.int .i64 n, v], .int .i64 i] w fun r w' => r = .returned (.bool (hasB n ws i)) ∧ Below w.heap.size w w' := by
  obtain ⟨w1, hw1, a0, a1, a2⟩ := allocs1 w (.cells #[.int .i64 n, v] 24)
  have R := rightRef_any (n := n) (hv.below a0) hlen
  have c0 := cells_cell (i := 0) a2 (v := .int .i64 n) rfl
  have c1 := cells_cell (i := 1) a2 (v := v) rfl
  obtain ⟨a, cap, rfl⟩ := hv.slice
  cases hr : rightB n ws with
  | false =>
    rw [hr] at R
    have e : hasB n ws i = false := by unfold hasB; rw [hr]; rfl
    rw [e]
    clear hlen hv a1 a2 hr e
    go_enter Tryd.func30, Tryd.ntmps30
    go_wp2_with fail
    refine R.mono ?_
    rintro r w2 ⟨rfl, hb⟩
    have hbb := a0.trans (hb.mono a0.size)
    clear R hb c0 c1
    go_wp2
    go_ret
    exact ⟨rfl, hbb⟩
  | true =>
    rw [hr] at R
    obtain ⟨N, rfl, hN1, hN2, hN3⟩ := rightB_iff hr
    have HV := Lib.hid (hv.below a0)
    by_cases h0 : 0 ≤ i
    · by_cases h1 : i < (N : Int)
      · obtain ⟨k, rfl⟩ : ∃ k : Nat, i = k := ⟨i.toNat, by omega⟩
        have e : hasB (N : Int) ws (k : Int) = onB ws k := by unfold hasB; rw [hr, decide_eq_true h0, decide_eq_true h1, Int.toNat_natCast]; rfl
        rw [e]
        have g0 : decide ((0 : Int) ≤ (k : Int)) = true := decide_eq_true h0
        have g1 : decide ((k : Int) < (N : Int)) = true := decide_eq_true h1
        have g2 : decide (k < N) = true := decide_eq_true (by omega)
        have hk32 : k < 32 * ws.length := by omega
        have I : ∀ W, Below w1.heap.size w1 W → Calls Tryd.prog 40 #[.agg #[.int .i64 (N : Int), .slice a ws.length cap], .int .i64 (k : Int)] W fun r w' => r = .returned (.bool (onB ws k)) ∧ Below W.heap.size W w' := fun W hb => onRef_any (n := (N : Int)) (HV.out.below hb) k hk32 (by omega)
        generalize onB ws k = q at *
        have HI := Lib.hid I
        clear hlen hv a1 hr e h0 h1 hN3 I hN2
        go_enter Tryd.func30, Tryd.ntmps30
        go_wp2_with fail
        refine R.mono ?_
        rintro r w2 ⟨rfl, hb⟩
        have hbb := a0.trans (hb.mono a0.size)
        have a3 := (hb.block _ (block_lt a2)).trans a2
        have d0 := cells_cell (i := 0) a3 (v := .int .i64 (N : Int)) rfl
        have d1 := cells_cell (i := 1) a3 (v := .slice a ws.length cap) rfl
        have I2 := HI.out w2 hb
        clear R hb c0 c1 a2 a3 HI
        go_wp2_with fail
        refine I2.mono ?_
        rintro r w3 ⟨rfl, hb3⟩
        have hb4 := hbb.trans (hb3.mono hbb.size)
        clear I2 hb3 hbb d0 d1
        go_wp2
        go_ret
        exact ⟨by cases q <;> rfl, hb4⟩
      · have e : hasB (N : Int) ws i = false := by unfold hasB; rw [hr, decide_eq_true h0, decide_eq_false (show ¬ i < (N : Int) by omega)]; rfl
        rw [e]
        have g0 : decide (0 ≤ i) = true := decide_eq_true h0
        have g1 : decide (i < (N : Int)) = false := decide_eq_false (by omega)
        clear hlen hv a1 hr e h0 h1 hN3 hN2
        go_enter Tryd.func30, Tryd.ntmps30
        go_wp2_with fail
        refine R.mono ?_
        rintro r w2 ⟨rfl, hb⟩
        have hbb := a0.trans (hb.mono a0.size)
        have a3 := (hb.block _ (block_lt a2)).trans a2
        have d0 := cells_cell (i := 0) a3 (v := .int .i64 (N : Int)) rfl
        clear R hb c0 c1 a2 a3
        go_wp2
        go_ret
        exact ⟨rfl, hbb⟩
    · have e : hasB (N : Int) ws i = false := by unfold hasB; rw [hr, decide_eq_false (show ¬ 0 ≤ i by omega)]; rfl
      rw [e]
      have g0 : decide (0 ≤ i) = false := decide_eq_false (by omega)
      clear hlen hv a1 hr e h0 hN3 hN2
      go_enter Tryd.func30, Tryd.ntmps30
      go_wp2_with fail
      refine R.mono ?_
      rintro r w2 ⟨rfl, hb⟩
      have hbb := a0.trans (hb.mono a0.size)
      clear R hb c0 c1 a2
      go_wp2
      go_ret
      exact ⟨rfl, hbb⟩

theorem own_ge2 {W : World} {base : Nat} {e : TypeId} {size : Nat} {v : Value} {k : Nat} {xs : List Value} (h : W.ownsRow base e size v k xs) : ∀ j, v.ownBlock = some j → base ≤ j := fun _ hj => ownsRow_block h hj.symm
def listK (ws : List Nat) (k : Nat) : List Nat := placesL ws k 0 true
theorem listK_yes {ws : List Nat} {k : Nat} (h : onB ws k = true) : listK ws (k + 1) = listK ws k ++ [k] := filter_succ_yes (by unfold soB; rw [h]; simp)
theorem listK_no {ws : List Nat} {k : Nat} (h : onB ws k = false) : listK ws (k + 1) = listK ws k := filter_succ_no (by unfold soB; rw [h]; simp)

set_option maxHeartbeats 2000000 in
set_option maxRecDepth 20000 in
theorem listRef_any {w : World} {n : Int} {v : Value} {ws : List Nat} (hv : WordsV w v ws) (hlen : ws.length ≤ 20000) :
    Calls Tryd.prog 33 #[.agg #[.int .i64 n, v]] w fun r w' => (∃ v', r = .returned v' ∧ IntsV w' v' (listI n ws)) ∧ Below w.heap.size w w' := by
  obtain ⟨i0, hi, hz0, hz1, hz2⟩ := info_parts intInfo
  obtain ⟨w1, hw1, a0, a1, a2⟩ := allocs1 w (.cells #[.int .i64 n, v] 24)
  have R := rightRef_any (n := n) (hv.below a0) hlen
  obtain ⟨a, cap, rfl⟩ := hv.slice
  have c0 := cells_cell (i := 0) a2 (v := .int .i64 n) rfl
  have c1 := cells_cell (i := 1) a2 (v := .slice a ws.length cap) rfl
  cases hr : rightB n ws with
  | false =>
    rw [hr] at R
    have e : listI n ws = [] := by unfold listI; rw [hr]; rfl
    rw [e]
    clear hv a1 a2 hr e
    go_enter Tryd.func33, Tryd.ntmps33
    go_wp2_with fail
    refine R.mono ?_
    rintro r w2 ⟨rfl, hb⟩
    have hbb := a0.trans (hb.mono a0.size)
    clear R hb c0 c1
    go_wp2
    go_ret
    exact ⟨⟨_, rfl, .empty none 0⟩, hbb⟩
  | true =>
    rw [hr] at R
    obtain ⟨N, rfl, hN1, hN2, hN3⟩ := rightB_iff hr
    have e : listI (N : Int) ws = (listK ws N).map fun k : Nat => (k : Int) := by unfold listI listK; rw [hr, Int.toNat_natCast]; rfl
    rw [e]
    have HV := Lib.hid (hv.below a0)
    have hN32 : N ≤ 32 * ws.length := by omega
    clear hv hr e a1 hN3 hN2
    go_enter Tryd.func33, Tryd.ntmps33
    go_wp2_with fail
    refine R.mono ?_
    rintro r w2 ⟨rfl, hb⟩
    have hbb := a0.trans (hb.mono a0.size)
    have d0 := (hb.cell (p := ⟨w.heap.size, 0, none⟩) (cell_lt c0)).trans c0
    have d1 := (hb.cell (p := ⟨w.heap.size, 1, none⟩) (cell_lt c1)).trans c1
    have HV2 := Lib.hid (HV.out.below hb)
    clear R hb c0 c1 hw1 HV a2
    go_wp2
    go_loopw [3, 4] (fun vo vi W => ∃ k : Nat, k ≤ N ∧ vi = .int .i64 k ∧ W.ownsRow w2.heap.size 3 1 vo (listK ws k).length ((listK ws k).map fun x : Nat => Value.int .i64 (x : Int)) ∧ Below w2.heap.size w2 W) (fun _ i _ => N - (intOf i).toNat)
    case atStart => exact ⟨0, Nat.zero_le _, rfl, World.ownsRow_nil _ _ _ _, Below.refl _ _⟩
    case round =>
      obtain ⟨k, hk, rfl, hrow, hB⟩ := hrel
      have e0 := (hB.cell (p := ⟨w.heap.size, 0, none⟩) (cell_lt d0)).trans d0
      have e1 := (hB.cell (p := ⟨w.heap.size, 1, none⟩) (cell_lt d1)).trans d1
      by_cases hlt : k < N
      · have K := onRef_any (n := (N : Int)) (HV2.out.below hB) k (by omega) (by omega)
        have hle : (listK ws k).length ≤ k := placesL_len ws k 0 true
        have iw : IntKind.i64.wrap ((k : Int) + 1) = (k : Int) + 1 := IntWalk.i64_in _ (by omega)
        cases hkp : onB ws k with
        | false =>
          rw [hkp] at K
          have e := listK_no hkp
          rw [← e] at hrow
          clear e hkp
          go_wp2_with fail
          refine K.mono ?_
          rintro r w3 ⟨rfl, hb1⟩
          have hrow' := ownsRow_below hrow hb1
          have hB' := hB.trans (hb1.mono hB.size)
          clear K hB hb1 hrow e0 e1
          go_wp2
          go_round
          case rel => exact ⟨k + 1, by omega, by go_num, hrow', hB'⟩
          case measure => simp [intOf]; omega
        | true =>
          rw [hkp] at K
          have e := listK_yes hkp
          clear hkp
          go_wp2_with fail
          refine K.mono ?_
          rintro r w3 ⟨rfl, hb1⟩
          have hrow' := ownsRow_below hrow hb1
          have hB' := hB.trans (hb1.mono hB.size)
          clear K hB hb1 hrow e0 e1
          go_wp2_with (at_builtin; refine wpList_append_own _ rfl _ _ 33 rfl w2.heap.size 3 i0 (.int .i64 0) 1 8 Tryd.underlying33 hi hz0 hz1 hz2 rfl (by decide) _ _ _ rfl (hrow'.alloc _) ⟨w3.heap.size, 0, none⟩ 1 1 [.int .i64 (k : Int)] rfl rfl (cell_one_new _ _ _) (by simp [Value.oneCell']) (by unfold maxLen; omega) (by omega) (by have := hB'.size; simp; omega) ?_; intro v' w4 hown' hgrow hfresh; obtain ⟨g', cap', rfl⟩ := ownsRow_succ hown')
          have hB2 : Below w2.heap.size w2 w4 := (hB'.alloc hB'.size _).grown hgrow (by have := hB'.size; simp; omega) (own_ge2 hrow')
          have hown2 : w4.ownsRow w2.heap.size 3 1 (.slice (some ⟨g', 0, none⟩) ((listK ws k).length + 1) cap') (listK ws (k + 1)).length ((listK ws (k + 1)).map fun x : Nat => Value.int .i64 (x : Int)) := by
            rw [e, List.length_append, List.map_append]
            exact hown'
          clear hgrow hown' hrow' hB' e
          go_wp2
          go_round
          case rel => exact ⟨k + 1, by omega, by go_num, hown2, hB2⟩
          case measure => simp [intOf]; omega
      · obtain rfl : k = N := by omega
        have hfin := hbb.trans (hB.mono hbb.size)
        have hI : IntsV wr _ ((listK ws k).map fun k : Nat => (k : Int)) := IntsV.of_row (e := 3) (base := w2.heap.size) (k := (listK ws k).length) (by rw [List.map_map]; exact hrow)
        clear hrow hB
        go_wp2
        go_ret
        exact ⟨⟨_, rfl, hI⟩, hfin⟩

theorem countRef_any {w : World} {n : Int} {v : Value} {ws : List Nat} (hv : WordsV w v ws) (hlen : ws.length ≤ 20000) :
    Calls Tryd.prog 31 #[.agg #[.int .i64 n, v]] w fun r w' => r = .returned (.int .i64 ((listI n ws).length : Int)) ∧ Below w.heap.size w w' := by
  obtain ⟨w1, hw1, a0, a1, a2⟩ := allocs1 w (.cells #[.int .i64 n, v] 24)
  have L := listRef_any (n := n) (hv.below a0) hlen
  have c0 := cells_cell (i := 0) a2 (v := .int .i64 n) rfl
  have c1 := cells_cell (i := 1) a2 (v := v) rfl
  obtain ⟨a, cap, rfl⟩ := hv.slice
  clear hv a1 a2
  go_enter Tryd.func31, Tryd.ntmps31
  go_wp2_with fail
  refine L.mono ?_
  rintro r w2 ⟨⟨v2, rfl, hv2⟩, hb⟩
  obtain ⟨a', cap', rfl⟩ := hv2.slice
  have hbb := a0.trans (hb.mono a0.size)
  clear hv2 L hb c0 c1
  go_wp2
  go_ret
  exact ⟨rfl, hbb⟩

set_option maxHeartbeats 1000000 in
theorem makeRef_any {w : World} (n : Int) :
    Calls Tryd.prog 28 #[.int .i64 n] w fun r w' => (∃ v', r = .returned (.tuple #[.agg #[.int .i64 (makeN n), v'], .int .i64 (makeE n)]) ∧ WordsV w' v' (makeL n)) ∧ Below w.heap.size w w' := by
  unfold makeN makeE makeL
  by_cases h : 0 ≤ n ∧ n ≤ 20000
  · have e : makeB n = true := by unfold makeB; rw [decide_eq_true h.1, decide_eq_true h.2]; rfl
    rw [e]
    obtain ⟨N, rfl⟩ : ∃ N : Nat, n = N := ⟨n.toNat, by omega⟩
    rw [Int.toNat_natCast]
    have hk : (N + 31) / 32 ≤ 100000 := by omega
    have iw : IntKind.i64.wrap ((N : Int) + 31) = (N : Int) + 31 := IntWalk.i64_in _ (by omega)
    have id1 : ((N : Int) + 31) / 32 = (((N + 31) / 32 : Nat) : Int) := by omega
    have iw2 : IntKind.i64.wrap (((N + 31) / 32 : Nat) : Int) = (((N + 31) / 32 : Nat) : Int) := IntWalk.i64_in _ (by omega)
    have hmk := fun w => run_makeW w ((N + 31) / 32) hk
    generalize (N + 31) / 32 = k at *
    have g0 : decide ((N : Int) < 0) = false := decide_eq_false (by omega)
    have g1 : decide ((20000 : Int) < (N : Int)) = false := decide_eq_false (by omega)
    have g2 : decide (20000 < N) = false := decide_eq_false (by omega)
    obtain ⟨w2, hw2, a0, a1, a2, a3⟩ := allocs2 w (.cells #[.int .i64 (N : Int), .slice (some ⟨w.heap.size + 1, 0, none⟩) k k] 24) (.cells (madeCells #[.int .u32 0] k) 47)
    have hA := ArW.made (n := k) (cap := k) (f := fun _ => 0) a3 (size_madeCells _ _) (fun j hj => madeW k j hj) (Nat.le_refl _) (by omega)
    have hv := hA.words (List.replicate k 0) (by simp) (fun i => by simp [List.getD, List.getElem?_replicate]; split <;> simp) (fun j hj => by simp [List.getD, hj])
    have H2 := Lib.hid hw2
    have HV := Lib.hid hv
    have A2 := Lib.hid a2
    clear hw2 hA hv a1 a2 a3 e h
    go_enter Tryd.func28, Tryd.ntmps28
    go_wp2
    rw [H2.out]
    exact bodyPost_ret (results_bits_tmp rfl _ _ w.heap.size _ _ rfl A2.out) rfl ⟨⟨_, rfl, HV.out⟩, a0⟩
  · have e : makeB n = false := by unfold makeB; rw [Bool.and_eq_false_iff, decide_eq_false_iff_not, decide_eq_false_iff_not]; omega
    rw [e]
    obtain ⟨w1, hw1, a0, a1, a2⟩ := allocs1 w (.cells #[.int .i64 0, .slice none 0 0] 24)
    have d0 := cells_cell (i := 0) a2 (v := .int .i64 0) rfl
    have d1 := cells_cell (i := 1) a2 (v := .slice none 0 0) rfl
    have d2 := cells_free (i := 0) a2
    have d3 := cells_free (i := 1) a2
    have e3 := heap_setCell_same (i := 1) (.slice none 0 0) (heap_setCell_same (i := 0) (.int .i64 0) a2)
    have hbb := (a0.setCell (p := ⟨w.heap.size, 0, none⟩) (Nat.le_refl _) (.int .i64 0)).setCell (p := ⟨w.heap.size, 1, none⟩) (Nat.le_refl _) (.slice none 0 0)
    have E3 := Lib.hid e3
    have HBB := Lib.hid hbb
    clear e3 hbb a0 a1 a2 e
    by_cases h0 : n < 0
    · have g0 : decide (n < 0) = true := decide_eq_true h0
      clear h
      go_enter Tryd.func28, Tryd.ntmps28
      go_wp2
      exact bodyPost_ret (results_bits_tmp rfl _ _ w.heap.size _ _ rfl E3.out) rfl ⟨⟨_, rfl, .empty none 0⟩, HBB.out⟩
    · have g0 : decide (n < 0) = false := decide_eq_false (by omega)
      have g1 : decide (20000 < n) = true := decide_eq_true (by omega)
      clear h
      go_enter Tryd.func28, Tryd.ntmps28
      go_wp2
      exact bodyPost_ret (results_bits_tmp rfl _ _ w.heap.size _ _ rfl E3.out) rfl ⟨⟨_, rfl, .empty none 0⟩, HBB.out⟩
end Go.Proofs.YtlncilcoohmlkaaDoor

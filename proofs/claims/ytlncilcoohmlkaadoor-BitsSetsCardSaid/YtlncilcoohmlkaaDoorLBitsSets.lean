/- BitsSets holds of all bits, places: the law's own text walked, and the card. -/
import Derived.Test.YtlncilcoohmlkaaDoorU10
import Derived.Test.YtlncilcoohmlkaaDoorP2
import Derived.Test.YtlncilcoohmlkaaDoorBx
import Derived.Test.YtlncilcoohmlkaaDoorG2
import Derived.Test.YtlncilcoohmlkaaDoorCards
import Derived.Test.YtlncilcoohmlkaaDoorTie
import Derived.BigQuiet
import Derived.Deep.RegionHeld3
namespace Go.Proofs.YtlncilcoohmlkaaDoor
open Go.RowKit
attribute [local go_sem ↓] Go.wp_at_zero Go.wp_at_succ
attribute [local go_sem ↓] run_max_int run_min_int

theorem bl {w W W' : World} (h : Below w.heap.size w W) (h' : Below W.heap.size W W') : Below w.heap.size w W' := h.trans (h'.mono h.size)

set_option maxHeartbeats 4000000 in
set_option maxRecDepth 20000 in
theorem sets_law {E : Env2} {w : World} (hGl : Glob2 E w) {n : Int} {v : Value} {ws : List Nat} (hv : WordsV w v ws) (i k : Int) (on : Bool) :
    Calls Tryd.prog 3 #[.agg #[.int .i64 n, v], .int .i64 i, .int .i64 k, .bool on] w fun r w' => r = .returned (.bool true) ∧ Below w.heap.size w w' := by
  have hl : (ws.take 12).length ≤ 1000 := by simp; omega
  generalize hl' : ws.take 12 = l' at hl
  have HL := Lib.hid hl'
  have HLL := Lib.hid hl
  obtain ⟨a, ca, rfl⟩ := hv.slice
  obtain ⟨w1, hw1, e0, e1, b1⟩ := allocs1 w (.cells #[.int .i64 n, .slice a ws.length ca] 24)
  have hb := e0
  have HG := Lib.hid hGl
  replace hGl := hGl.below e0
  replace hv := hv.below e0
  have m1 := shown_any hGl
  clear hl' hl e0 e1
  go_enter Tryd.func3, Tryd.ntmps3
  go_wp2_with fail
  refine m1.mono ?_
  rintro r w2 ⟨rfl, hb1⟩
  replace hb := hb.trans (hb1.mono hb.size)
  replace hGl := hGl.below hb1
  replace hv := hv.below hb1
  replace b1 := (hb1.block _ (block_lt b1)).trans b1
  clear m1 hb1 hw1
  have c0 := cells_cell (i := 0) b1 (v := .int .i64 n) rfl
  have c1 := cells_cell (i := 1) b1 (v := .slice a ws.length ca) rfl
  have m1 := cut_any2 (n := n) hv
  rw [HL.out] at m1
  clear HL
  go_wp2_with fail
  refine m1.mono ?_
  rintro r w3 ⟨⟨vc, rfl, hc⟩, hb1⟩
  obtain ⟨a', ca', rfl⟩ := hc.slice
  replace hb := hb.trans (hb1.mono hb.size)
  replace b1 := (hb1.block _ (block_lt b1)).trans b1
  clear m1 hb1 hGl hv c0 c1
  obtain ⟨w4, hw4, hb4, hGl, hW, b4, -⟩ := rebox HG.out hb (Nat.le_refl _) b1 n a' l'.length ca'
  replace hc := hW _ _ hc
  have c0 := cells_cell (i := 0) b1 (v := .int .i64 n) rfl
  have c1 := cells_cell (i := 1) b1 (v := .slice a ws.length ca) rfl
  have f0 := cells_free (i := 0) b1
  have f1 := cells_free (i := 1) b1
  have d0 := cells_cell (i := 0) b4 (v := .int .i64 n) rfl
  have d1 := cells_cell (i := 1) b4 (v := .slice a' l'.length ca') rfl
  have m1 := set_any hGl (n := n) hc i on
  clear b1 hW hb
  go_wp2_with fail
  cases hr : rightB n l' with
  | false =>
    have q1 : setN n l' i = 0 ∧ setE n l' i = 20 := by unfold setN setE; rw [hr]; exact ⟨rfl, rfl⟩
    rw [q1.1, q1.2] at m1
    clear q1
    refine m1.mono ?_
    rintro r w5 ⟨⟨vs, rfl, hs⟩, hb1⟩
    obtain ⟨a2, ca2, rfl⟩ := hs.slice
    generalize (setL n l' i on).length = ln at hs
    obtain ⟨w6, hw6, e0, e1, -⟩ := allocs1 w5 (.cells #[.int .i64 0, .slice a2 ln ca2] 24)
    have hbb := hb1.trans (e0.mono hb1.size)
    replace hb4 := hb4.trans (hbb.mono hb4.size)
    replace b4 := (hbb.block _ (block_lt b4)).trans b4
    replace hc := hc.below hbb
    clear c0 c1 d0 d1 f0 f1 m1 hb1 e0 e1 hbb hGl hw4
    have c0 := cells_cell (i := 0) b4 (v := .int .i64 n) rfl
    have c1 := cells_cell (i := 1) b4 (v := .slice a' l'.length ca') rfl
    have m1 := right_any2 (n := n) hc
    rw [hr] at m1
    clear hc
    go_wp2_with fail
    refine m1.mono ?_
    rintro r w7 ⟨rfl, hb1⟩
    replace hb4 := hb4.trans (hb1.mono hb4.size)
    clear m1 hb1 hw6
    go_wp2
    go_ret
    exact ⟨rfl, hb4⟩
  | true =>
    by_cases hi : 0 ≤ i ∧ i < n
    · obtain ⟨N, rfl, -⟩ := rightB_iff hr
      obtain ⟨I, rfl⟩ : ∃ I : Nat, i = I := ⟨i.toNat, by omega⟩
      have hIN : I < N := by omega
      have q : decide ((0 : Int) ≤ (I : Int)) = true ∧ decide ((I : Int) < (N : Int)) = true := ⟨decide_eq_true (by omega), decide_eq_true (by omega)⟩
      have q1 : setN (N : Int) l' (I : Int) = (N : Int) ∧ setE (N : Int) l' (I : Int) = 0 ∧ setL (N : Int) l' (I : Int) on = setW l' I on := by unfold setN setE setL; rw [hr, q.1, q.2]; exact ⟨rfl, rfl, rfl⟩
      rw [q1.1, q1.2.1, q1.2.2] at m1
      have R1 := right_setW hr hIN on
      have R2 := has_setW hr hIN on
      have R3 := fun k hk => has_setW_ne hr hIN on (k := k) hk
      generalize setW l' I on = us at *
      clear q q1 hi
      refine m1.mono ?_
      rintro r w5 ⟨⟨vs, rfl, hs⟩, hb1⟩
      obtain ⟨a2, ca2, rfl⟩ := hs.slice
      obtain ⟨w6, hw6, e0, e1, b6⟩ := allocs1 w5 (.cells #[.int .i64 (N : Int), .slice a2 us.length ca2] 24)
      have hbb := hb1.trans (e0.mono hb1.size)
      replace hb4 := hb4.trans (hbb.mono hb4.size)
      replace b4 := (hbb.block _ (block_lt b4)).trans b4
      replace hc := hc.below hbb
      replace hs := hs.below e0
      clear c0 c1 d0 d1 f0 f1 m1 hb1 e0 e1 hbb hGl hw4
      have c0 := cells_cell (i := 0) b4 (v := .int .i64 (N : Int)) rfl
      have c1 := cells_cell (i := 1) b4 (v := .slice a' l'.length ca') rfl
      have d0 := cells_cell (i := 0) b6 (v := .int .i64 (N : Int)) rfl
      have d1 := cells_cell (i := 1) b6 (v := .slice a2 us.length ca2) rfl
      go_wp2_with fail
      have HC : Below w6.heap.size w6 w6 := Below.refl _ _
      have HX := Lib.hid (show ∀ W, Below w6.heap.size w6 W → (W.cell? ⟨w.heap.size, 0, none⟩ = some (.int .i64 (N : Int)) ∧ W.cell? ⟨w.heap.size, 1, none⟩ = some (.slice a' l'.length ca')) ∧ W.cell? ⟨w5.heap.size, 0, none⟩ = some (.int .i64 (N : Int)) ∧ W.cell? ⟨w5.heap.size, 1, none⟩ = some (.slice a2 us.length ca2) from
        fun W h => ⟨⟨(h.cell (p := ⟨w.heap.size, 0, none⟩) (cell_lt c0)).trans c0, (h.cell (p := ⟨w.heap.size, 1, none⟩) (cell_lt c1)).trans c1⟩, (h.cell (p := ⟨w5.heap.size, 0, none⟩) (cell_lt d0)).trans d0, (h.cell (p := ⟨w5.heap.size, 1, none⟩) (cell_lt d1)).trans d1⟩)
      have HR1 := Lib.hid (show ∀ W, Below w6.heap.size w6 W → Calls Tryd.prog 14 #[.agg #[.int .i64 (N : Int), .slice a2 us.length ca2]] W fun r w' => r = .returned (.bool true) ∧ Below W.heap.size W w' from fun W h => by have := right_any2 (n := (N : Int)) (hs.below h); rwa [R1] at this)
      have HHas := Lib.hid (show ∀ W (u : Value) (vs : List Nat) (x : Int), Below w6.heap.size w6 W → WordsV w6 u vs → Calls Tryd.prog 15 #[.agg #[.int .i64 (N : Int), u], .int .i64 x] W fun r w' => r = .returned (.bool (hasB (N : Int) vs x)) ∧ Below W.heap.size W w' from fun W u vs x h h2 => has_any (n := (N : Int)) (h2.below h) x)
      by_cases hk : k = (I : Int)
      · subst hk
        clear R1 R3 b4 b6 hw6 hIN hr HG HLL
        have g0 : ((I : Int) == (I : Int)) = true := by simp
        have g1 : (on == on) = true := by simp
        refine wp_region_held_drew (S := (fun W' => Below w6.heap.size w6 W' ∧ W'.cell? ⟨w.heap.size, 0, none⟩ = some (.int .i64 (N : Int)) ∧ W'.cell? ⟨w.heap.size, 1, none⟩ = some (.slice a' l'.length ca') ∧ W'.cell? ⟨w5.heap.size, 0, none⟩ = some (.int .i64 (N : Int)) ∧ W'.cell? ⟨w5.heap.size, 1, none⟩ = some (.slice a2 us.length ca2))) (by kernel_rfl) ⟨HC.drew, HX.out _ HC.drew |>.1.1, HX.out _ HC.drew |>.1.2, HX.out _ HC.drew |>.2⟩ (fun hHeld => ?_)
        refine wpAnyH_take (i := 0) (oi := ?o0) (v := ?v0) ?hi0 (by kernel_rfl) (by kernel_rfl) (by kernel_rfl) ?hq0 (Or.inl ⟨?hw0, ?hy0⟩) (by assumption) ?_
        case hi0 => simp only [List.getElem?_toArray, List.getElem?_cons_zero]; rfl
        case hq0 => exact fun _ _ _ h => h
        case hw0 => rfl
        case hy0 => (intro w hSw; (try dsimp only at hSw); go_simp; try with_reducible rfl)
        try simp only [Act.put, List.setIfInBounds_toArray, List.set_cons_zero, List.set_cons_succ]
        refine wpAnyH_take (i := 1) (oi := ?o1) (v := ?v1) ?hi1 (by kernel_rfl) (by kernel_rfl) (by kernel_rfl) ?hq1 (Or.inl ⟨?hw1, ?hy1⟩) (by assumption) ?_
        case hi1 => simp only [List.getElem?_toArray, List.getElem?_cons_succ, List.getElem?_cons_zero]; rfl
        case hq1 => exact fun _ _ _ h => h
        case hw1 => rfl
        case hy1 => (intro w hSw; (try dsimp only at hSw); go_simp; try with_reducible rfl)
        try simp only [Act.put, List.setIfInBounds_toArray, List.set_cons_zero, List.set_cons_succ]
        refine wpAnyH_take (i := 2) (oi := ?o2) (v := ?v2) ?hi2 (by kernel_rfl) (by kernel_rfl) (by kernel_rfl) ?hq2 (Or.inl ⟨?hw2, ?hy2⟩) (by assumption) ?_
        case hi2 => simp only [List.getElem?_toArray, List.getElem?_cons_succ, List.getElem?_cons_zero]; rfl
        case hq2 => exact fun _ _ _ h => h
        case hw2 => rfl
        case hy2 => (intro w hSw; (try dsimp only at hSw); go_simp; try with_reducible rfl)
        try simp only [Act.put, List.setIfInBounds_toArray, List.set_cons_zero, List.set_cons_succ]
        refine wpAnyH_ready (rs := [3]) (by kernel_rfl) (by simp) (AllReadyH.cons (o := ?o3) ?hi3 (fun K hK => ?step3) AllReadyH.nil)
        case hi3 => simp only [List.getElem?_toArray, List.getElem?_cons_succ, List.getElem?_cons_zero]; rfl
        case step3 =>
          go_simp
          (go_at_call 14; refine (HR1.out _ ?_).mono ?_; (first | exact HC.drew | exact HC); rintro r w' ⟨rfl, hb1⟩; have HC := (show Below w6.heap.size w6 w' from by first | exact bl HC hb1 | exact bl HC.drew hb1); obtain ⟨⟨c0, c1⟩, d0, d1⟩ := HX.out _ HC)
          refine hK.out _ _ ⟨HC, c0, c1, d0, d1⟩ (fun hHeld => ?_)
          clear hK K
          try simp only [Act.put, List.setIfInBounds_toArray, List.set_cons_zero, List.set_cons_succ]
          refine wpAnyH_take (i := 4) (oi := ?o4) (v := ?v4) ?hi4 (by kernel_rfl) (by kernel_rfl) (by kernel_rfl) ?hq4 (Or.inl ⟨?hw4, ?hy4⟩) (by assumption) ?_
          case hi4 => simp only [List.getElem?_toArray, List.getElem?_cons_succ, List.getElem?_cons_zero]; rfl
          case hq4 => exact fun _ _ _ h => h
          case hw4 => rfl
          case hy4 => (intro w hSw; (try dsimp only at hSw); go_simp; try with_reducible rfl)
          try simp only [Act.put, List.setIfInBounds_toArray, List.set_cons_zero, List.set_cons_succ]
          refine wpAnyH_take (i := 5) (oi := ?o5) (v := ?v5) ?hi5 (by kernel_rfl) (by kernel_rfl) (by kernel_rfl) ?hq5 (Or.inl ⟨?hw5, ?hy5⟩) (by assumption) ?_
          case hi5 => simp only [List.getElem?_toArray, List.getElem?_cons_succ, List.getElem?_cons_zero]; rfl
          case hq5 => exact fun _ _ _ h => h
          case hw5 => rfl
          case hy5 => (intro w hSw; (try dsimp only at hSw); go_simp; try with_reducible rfl)
          try simp only [Act.put, List.setIfInBounds_toArray, List.set_cons_zero, List.set_cons_succ]
          refine wpAnyH_take (i := 6) (oi := ?o6) (v := ?v6) ?hi6 (by kernel_rfl) (by kernel_rfl) (by kernel_rfl) ?hq6 (Or.inl ⟨?hw6, ?hy6⟩) (by assumption) ?_
          case hi6 => simp only [List.getElem?_toArray, List.getElem?_cons_succ, List.getElem?_cons_zero]; rfl
          case hq6 => exact fun _ _ _ h => h
          case hw6 => rfl
          case hy6 => (intro w hSw; (try dsimp only at hSw); go_simp; try with_reducible rfl)
          try simp only [Act.put, List.setIfInBounds_toArray, List.set_cons_zero, List.set_cons_succ]
          refine wpAnyH_take (i := 7) (oi := ?o7) (v := ?v7) ?hi7 (by kernel_rfl) (by kernel_rfl) (by kernel_rfl) ?hq7 (Or.inl ⟨?hw7, ?hy7⟩) (by assumption) ?_
          case hi7 => simp only [List.getElem?_toArray, List.getElem?_cons_succ, List.getElem?_cons_zero]; rfl
          case hq7 => exact fun _ _ _ h => h
          case hw7 => rfl
          case hy7 => (intro w hSw; (try dsimp only at hSw); go_simp; try with_reducible rfl)
          try simp only [Act.put, List.setIfInBounds_toArray, List.set_cons_zero, List.set_cons_succ]
          refine wpAnyH_take (i := 8) (oi := ?o8) (v := ?v8) ?hi8 (by kernel_rfl) (by kernel_rfl) (by kernel_rfl) ?hq8 (Or.inl ⟨?hw8, ?hy8⟩) (by assumption) ?_
          case hi8 => simp only [List.getElem?_toArray, List.getElem?_cons_succ, List.getElem?_cons_zero]; rfl
          case hq8 => exact fun _ _ _ h => h
          case hw8 => rfl
          case hy8 => (intro w hSw; (try dsimp only at hSw); go_simp; try with_reducible rfl)
          try simp only [Act.put, List.setIfInBounds_toArray, List.set_cons_zero, List.set_cons_succ]
          refine wpAnyH_take (i := 9) (oi := ?o9) (v := ?v9) ?hi9 (by kernel_rfl) (by kernel_rfl) (by kernel_rfl) ?hq9 (Or.inl ⟨?hw9, ?hy9⟩) (by assumption) ?_
          case hi9 => simp only [List.getElem?_toArray, List.getElem?_cons_succ, List.getElem?_cons_zero]; rfl
          case hq9 => exact fun _ _ _ h => h
          case hw9 => rfl
          case hy9 => (intro w hSw; (try dsimp only at hSw); go_simp; try with_reducible rfl)
          try simp only [Act.put, List.setIfInBounds_toArray, List.set_cons_zero, List.set_cons_succ]
          refine wpAnyH_take (i := 10) (oi := ?o10) (v := ?v10) ?hi10 (by kernel_rfl) (by kernel_rfl) (by kernel_rfl) ?hq10 (Or.inl ⟨?hw10, ?hy10⟩) (by assumption) ?_
          case hi10 => simp only [List.getElem?_toArray, List.getElem?_cons_succ, List.getElem?_cons_zero]; rfl
          case hq10 => exact fun _ _ _ h => h
          case hw10 => rfl
          case hy10 => (intro w hSw; (try dsimp only at hSw); go_simp; try with_reducible rfl)
          try simp only [Act.put, List.setIfInBounds_toArray, List.set_cons_zero, List.set_cons_succ]
          refine wpAnyH_take (i := 11) (oi := ?o11) (v := ?v11) ?hi11 (by kernel_rfl) (by kernel_rfl) (by kernel_rfl) ?hq11 (Or.inl ⟨?hw11, ?hy11⟩) (by assumption) ?_
          case hi11 => simp only [List.getElem?_toArray, List.getElem?_cons_succ, List.getElem?_cons_zero]; rfl
          case hq11 => exact fun _ _ _ h => h
          case hw11 => rfl
          case hy11 => (intro w hSw; (try dsimp only at hSw); go_simp; try with_reducible rfl)
          try simp only [Act.put, List.setIfInBounds_toArray, List.set_cons_zero, List.set_cons_succ]
          refine wpAnyH_take (i := 12) (oi := ?o12) (v := ?v12) ?hi12 (by kernel_rfl) (by kernel_rfl) (by kernel_rfl) ?hq12 (Or.inl ⟨?hw12, ?hy12⟩) (by assumption) ?_
          case hi12 => simp only [List.getElem?_toArray, List.getElem?_cons_succ, List.getElem?_cons_zero]; rfl
          case hq12 => exact fun _ _ _ h => h
          case hw12 => rfl
          case hy12 => (intro w hSw; (try dsimp only at hSw); go_simp; try with_reducible rfl)
          try simp only [Act.put, List.setIfInBounds_toArray, List.set_cons_zero, List.set_cons_succ]
          refine wpAnyH_take (i := 13) (oi := ?o13) (v := ?v13) ?hi13 (by kernel_rfl) (by kernel_rfl) (by kernel_rfl) ?hq13 (Or.inl ⟨?hw13, ?hy13⟩) (by assumption) ?_
          case hi13 => simp only [List.getElem?_toArray, List.getElem?_cons_succ, List.getElem?_cons_zero]; rfl
          case hq13 => exact fun _ _ _ h => h
          case hw13 => rfl
          case hy13 => (intro w hSw; (try dsimp only at hSw); go_simp; try with_reducible rfl)
          try simp only [Act.put, List.setIfInBounds_toArray, List.set_cons_zero, List.set_cons_succ]
          refine wpAnyH_take (i := 14) (oi := ?o14) (v := ?v14) ?hi14 (by kernel_rfl) (by kernel_rfl) (by kernel_rfl) ?hq14 (Or.inl ⟨?hw14, ?hy14⟩) (by assumption) ?_
          case hi14 => simp only [List.getElem?_toArray, List.getElem?_cons_succ, List.getElem?_cons_zero]; rfl
          case hq14 => exact fun _ _ _ h => h
          case hw14 => rfl
          case hy14 => (intro w hSw; (try dsimp only at hSw); go_simp; try with_reducible rfl)
          try simp only [Act.put, List.setIfInBounds_toArray, List.set_cons_zero, List.set_cons_succ]
          refine wpAnyH_take (i := 16) (oi := ?o16) (v := ?v16) ?hi16 (by kernel_rfl) (by kernel_rfl) (by kernel_rfl) ?hq16 (Or.inl ⟨?hw16, ?hy16⟩) (by assumption) ?_
          case hi16 => simp only [List.getElem?_toArray, List.getElem?_cons_succ, List.getElem?_cons_zero]; rfl
          case hq16 => exact fun _ _ _ h => h
          case hw16 => rfl
          case hy16 => (intro w hSw; (try dsimp only at hSw); go_simp; try with_reducible rfl)
          try simp only [Act.put, List.setIfInBounds_toArray, List.set_cons_zero, List.set_cons_succ]
          refine wpAnyH_ready (rs := [15]) (by kernel_rfl) (by simp) (AllReadyH.cons (o := ?o15) ?hi15 (fun K hK => ?step15) AllReadyH.nil)
          case hi15 => simp only [List.getElem?_toArray, List.getElem?_cons_succ, List.getElem?_cons_zero]; rfl
          case step15 =>
            go_simp
            (go_at_call 15; refine (HHas.out _ _ us _ ?_ hs).mono ?_; (first | exact HC.drew | exact HC); rintro r w' ⟨rfl, hb1⟩; have HC := (show Below w6.heap.size w6 w' from by first | exact bl HC hb1 | exact bl HC.drew hb1); obtain ⟨⟨c0, c1⟩, d0, d1⟩ := HX.out _ HC)
            refine hK.out _ _ ⟨HC, c0, c1, d0, d1⟩ (fun hHeld => ?_)
            clear hK K
            try simp only [Act.put, List.setIfInBounds_toArray, List.set_cons_zero, List.set_cons_succ]
            refine wpAnyH_take (i := 17) (oi := ?o17) (v := ?v17) ?hi17 (by kernel_rfl) (by kernel_rfl) (by kernel_rfl) ?hq17 (Or.inl ⟨?hw17, ?hy17⟩) (by assumption) ?_
            case hi17 => simp only [List.getElem?_toArray, List.getElem?_cons_succ, List.getElem?_cons_zero]; rfl
            case hq17 => exact fun _ _ _ h => h
            case hw17 => rfl
            case hy17 => (intro w hSw; (try dsimp only at hSw); go_simp; try with_reducible rfl)
            try simp only [Act.put, List.setIfInBounds_toArray, List.set_cons_zero, List.set_cons_succ]
            refine wpAnyH_take (i := 18) (oi := ?o18) (v := ?v18) ?hi18 (by kernel_rfl) (by kernel_rfl) (by kernel_rfl) ?hq18 (Or.inl ⟨?hw18, ?hy18⟩) (by assumption) ?_
            case hi18 => simp only [List.getElem?_toArray, List.getElem?_cons_succ, List.getElem?_cons_zero]; rfl
            case hq18 => exact fun _ _ _ h => h
            case hw18 => rfl
            case hy18 => (intro w hSw; (try dsimp only at hSw); go_simp; try with_reducible rfl)
            try simp only [Act.put, List.setIfInBounds_toArray, List.set_cons_zero, List.set_cons_succ]
            refine wpAnyH_take (i := 19) (oi := ?o19) (v := ?v19) ?hi19 (by kernel_rfl) (by kernel_rfl) (by kernel_rfl) ?hq19 (Or.inl ⟨?hw19, ?hy19⟩) (by assumption) ?_
            case hi19 => simp only [List.getElem?_toArray, List.getElem?_cons_succ, List.getElem?_cons_zero]; rfl
            case hq19 => exact fun _ _ _ h => h
            case hw19 => rfl
            case hy19 => (intro w hSw; (try dsimp only at hSw); go_simp; try with_reducible rfl)
            try simp only [Act.put, List.setIfInBounds_toArray, List.set_cons_zero, List.set_cons_succ]
            refine wpAnyH_take (i := 20) (oi := ?o20) (v := ?v20) ?hi20 (by kernel_rfl) (by kernel_rfl) (by kernel_rfl) ?hq20 (Or.inl ⟨?hw20, ?hy20⟩) (by assumption) ?_
            case hi20 => simp only [List.getElem?_toArray, List.getElem?_cons_succ, List.getElem?_cons_zero]; rfl
            case hq20 => exact fun _ _ _ h => h
            case hw20 => rfl
            case hy20 => (intro w hSw; (try dsimp only at hSw); go_simp; try with_reducible rfl)
            try simp only [Act.put, List.setIfInBounds_toArray, List.set_cons_zero, List.set_cons_succ]
            refine wpAnyH_take (i := 21) (oi := ?o21) (v := ?v21) ?hi21 (by kernel_rfl) (by kernel_rfl) (by kernel_rfl) ?hq21 (Or.inl ⟨?hw21, ?hy21⟩) (by assumption) ?_
            case hi21 => simp only [List.getElem?_toArray, List.getElem?_cons_succ, List.getElem?_cons_zero]; rfl
            case hq21 => exact fun _ _ _ h => h
            case hw21 => rfl
            case hy21 => (intro w hSw; (try dsimp only at hSw); go_simp; try with_reducible rfl)
            try simp only [Act.put, List.setIfInBounds_toArray, List.set_cons_zero, List.set_cons_succ]
            refine wpAnyH_take (i := 22) (oi := ?o22) (v := ?v22) ?hi22 (by kernel_rfl) (by kernel_rfl) (by kernel_rfl) ?hq22 (Or.inl ⟨?hw22, ?hy22⟩) (by assumption) ?_
            case hi22 => simp only [List.getElem?_toArray, List.getElem?_cons_succ, List.getElem?_cons_zero]; rfl
            case hq22 => exact fun _ _ _ h => h
            case hw22 => rfl
            case hy22 => (intro w hSw; (try dsimp only at hSw); go_simp; try with_reducible rfl)
            try simp only [Act.put, List.setIfInBounds_toArray, List.set_cons_zero, List.set_cons_succ]
            refine wpAnyH_take (i := 23) (oi := ?o23) (v := ?v23) ?hi23 (by kernel_rfl) (by kernel_rfl) (by kernel_rfl) ?hq23 (Or.inl ⟨?hw23, ?hy23⟩) (by assumption) ?_
            case hi23 => simp only [List.getElem?_toArray, List.getElem?_cons_succ, List.getElem?_cons_zero]; rfl
            case hq23 => exact fun _ _ _ h => h
            case hw23 => rfl
            case hy23 => (intro w hSw; (try dsimp only at hSw); go_simp; try with_reducible rfl)
            try simp only [Act.put, List.setIfInBounds_toArray, List.set_cons_zero, List.set_cons_succ]
            refine wpAnyH_take (i := 24) (oi := ?o24) (v := undef) ?hi24 (by kernel_rfl) (by kernel_rfl) (by kernel_rfl) ?hq24 (Or.inr ⟨?hw24, rfl⟩) (by assumption) ?_
            case hi24 => simp only [List.getElem?_toArray, List.getElem?_cons_succ, List.getElem?_cons_zero]; rfl
            case hq24 => exact fun _ _ _ h => h
            case hw24 => rfl
            try simp only [Act.put, List.setIfInBounds_toArray, List.set_cons_zero, List.set_cons_succ]
            refine wpAnyH_take (i := 25) (oi := ?o25) (v := undef) ?hi25 (by kernel_rfl) (by kernel_rfl) (by kernel_rfl) ?hq25 (Or.inr ⟨?hw25, rfl⟩) (by assumption) ?_
            case hi25 => simp only [List.getElem?_toArray, List.getElem?_cons_succ, List.getElem?_cons_zero]; rfl
            case hq25 => exact fun _ _ _ h => h
            case hw25 => rfl
            try simp only [Act.put, List.setIfInBounds_toArray, List.set_cons_zero, List.set_cons_succ]
            refine wpAnyH_take (i := 26) (oi := ?o26) (v := undef) ?hi26 (by kernel_rfl) (by kernel_rfl) (by kernel_rfl) ?hq26 (Or.inr ⟨?hw26, rfl⟩) (by assumption) ?_
            case hi26 => simp only [List.getElem?_toArray, List.getElem?_cons_succ, List.getElem?_cons_zero]; rfl
            case hq26 => exact fun _ _ _ h => h
            case hw26 => rfl
            try simp only [Act.put, List.setIfInBounds_toArray, List.set_cons_zero, List.set_cons_succ]
            refine wpAnyH_take (i := 27) (oi := ?o27) (v := undef) ?hi27 (by kernel_rfl) (by kernel_rfl) (by kernel_rfl) ?hq27 (Or.inr ⟨?hw27, rfl⟩) (by assumption) ?_
            case hi27 => simp only [List.getElem?_toArray, List.getElem?_cons_succ, List.getElem?_cons_zero]; rfl
            case hq27 => exact fun _ _ _ h => h
            case hw27 => rfl
            try simp only [Act.put, List.setIfInBounds_toArray, List.set_cons_zero, List.set_cons_succ]
            refine wpAnyH_take (i := 28) (oi := ?o28) (v := undef) ?hi28 (by kernel_rfl) (by kernel_rfl) (by kernel_rfl) ?hq28 (Or.inr ⟨?hw28, rfl⟩) (by assumption) ?_
            case hi28 => simp only [List.getElem?_toArray, List.getElem?_cons_succ, List.getElem?_cons_zero]; rfl
            case hq28 => exact fun _ _ _ h => h
            case hw28 => rfl
            try simp only [Act.put, List.setIfInBounds_toArray, List.set_cons_zero, List.set_cons_succ]
            refine wpAnyH_take (i := 29) (oi := ?o29) (v := undef) ?hi29 (by kernel_rfl) (by kernel_rfl) (by kernel_rfl) ?hq29 (Or.inr ⟨?hw29, rfl⟩) (by assumption) ?_
            case hi29 => simp only [List.getElem?_toArray, List.getElem?_cons_succ, List.getElem?_cons_zero]; rfl
            case hq29 => exact fun _ _ _ h => h
            case hw29 => rfl
            try simp only [Act.put, List.setIfInBounds_toArray, List.set_cons_zero, List.set_cons_succ]
            refine wpAnyH_take (i := 30) (oi := ?o30) (v := undef) ?hi30 (by kernel_rfl) (by kernel_rfl) (by kernel_rfl) ?hq30 (Or.inr ⟨?hw30, rfl⟩) (by assumption) ?_
            case hi30 => simp only [List.getElem?_toArray, List.getElem?_cons_succ, List.getElem?_cons_zero]; rfl
            case hq30 => exact fun _ _ _ h => h
            case hw30 => rfl
            try simp only [Act.put, List.setIfInBounds_toArray, List.set_cons_zero, List.set_cons_succ]
            refine wpAnyH_take (i := 31) (oi := ?o31) (v := ?v31) ?hi31 (by kernel_rfl) (by kernel_rfl) (by kernel_rfl) ?hq31 (Or.inl ⟨?hw31, ?hy31⟩) (by assumption) ?_
            case hi31 => simp only [List.getElem?_toArray, List.getElem?_cons_succ, List.getElem?_cons_zero]; rfl
            case hq31 => exact fun _ _ _ h => h
            case hw31 => rfl
            case hy31 => (intro w hSw; (try dsimp only at hSw); go_simp; try with_reducible rfl)
            try simp only [Act.put, List.setIfInBounds_toArray, List.set_cons_zero, List.set_cons_succ]
            refine wpAnyH_take (i := 32) (oi := ?o32) (v := ?v32) ?hi32 (by kernel_rfl) (by kernel_rfl) (by kernel_rfl) ?hq32 (Or.inl ⟨?hw32, ?hy32⟩) (by assumption) ?_
            case hi32 => simp only [List.getElem?_toArray, List.getElem?_cons_succ, List.getElem?_cons_zero]; rfl
            case hq32 => exact fun _ _ _ h => h
            case hw32 => rfl
            case hy32 => (intro w hSw; (try dsimp only at hSw); go_simp; try with_reducible rfl)
            try simp only [Act.put, List.setIfInBounds_toArray, List.set_cons_zero, List.set_cons_succ]
            refine wpAnyH_take (i := 33) (oi := ?o33) (v := ?v33) ?hi33 (by kernel_rfl) (by kernel_rfl) (by kernel_rfl) ?hq33 (Or.inl ⟨?hw33, ?hy33⟩) (by assumption) ?_
            case hi33 => simp only [List.getElem?_toArray, List.getElem?_cons_succ, List.getElem?_cons_zero]; rfl
            case hq33 => exact fun _ _ _ h => h
            case hw33 => rfl
            case hy33 => (intro w hSw; (try dsimp only at hSw); go_simp; try with_reducible rfl)
            try simp only [Act.put, List.setIfInBounds_toArray, List.set_cons_zero, List.set_cons_succ]
            refine wpAnyH_done (by kernel_rfl) ?_ _
            go_wp2
            go_ret
            exact ⟨rfl, by first | exact bl hb4 HC | exact bl hb4 HC.drew⟩
      · have R3k := R3 k hk
        have g0 : (k == (I : Int)) = false := beq_eq_false_iff_ne.2 hk
        clear R1 R3 b4 b6 hw6 hIN hr HG HLL hk
        have g1 : (on == on) = true := by simp
        have g2 : (hasB (N : Int) l' k == hasB (N : Int) l' k) = true := by simp
        first | go_region_held3 (fun W' => Below w6.heap.size w6 W' ∧ W'.cell? ⟨w.heap.size, 0, none⟩ = some (.int .i64 (N : Int)) ∧ W'.cell? ⟨w.heap.size, 1, none⟩ = some (.slice a' l'.length ca') ∧ W'.cell? ⟨w5.heap.size, 0, none⟩ = some (.int .i64 (N : Int)) ∧ W'.cell? ⟨w5.heap.size, 1, none⟩ = some (.slice a2 us.length ca2)) (first | exact ⟨HC, c0, c1, d0, d1⟩ | exact ⟨HC.drew, c0, c1, d0, d1⟩ | go_keep)
          (first
            | (go_at_call 14; refine (HR1.out _ ?_).mono ?_; (first | assumption | (go_split_ands; assumption)); rintro r w' ⟨rfl, hb1⟩; have HC := (show Below w6.heap.size w6 w' from by first | exact bl HC hb1 | exact bl HC.drew hb1); obtain ⟨⟨c0, c1⟩, d0, d1⟩ := HX.out _ HC)
            | (go_at_call_of 15 (Value.agg #[.int .i64 (N : Int), .slice a2 us.length ca2]); refine (HHas.out _ _ us _ ?_ hs).mono ?_; (first | assumption | (go_split_ands; assumption)); rintro r w' ⟨rfl, hb1⟩; have HC := (show Below w6.heap.size w6 w' from by first | exact bl HC hb1 | exact bl HC.drew hb1); obtain ⟨⟨c0, c1⟩, d0, d1⟩ := HX.out _ HC)
            | (go_at_call_of 15 (Value.agg #[.int .i64 (N : Int), .slice a' l'.length ca']); refine (HHas.out _ _ l' _ ?_ hc).mono ?_; (first | assumption | (go_split_ands; assumption)); rintro r w' ⟨rfl, hb1⟩; have HC := (show Below w6.heap.size w6 w' from by first | exact bl HC hb1 | exact bl HC.drew hb1); obtain ⟨⟨c0, c1⟩, d0, d1⟩ := HX.out _ HC))
              | fail "held"
        all_goals
          go_wp2
          go_ret
          exact ⟨rfl, by first | exact bl hb4 HC | exact bl hb4 HC.drew⟩
    · have q1 : setN n l' i = 0 ∧ setE n l' i = 21 := by
        unfold setN setE
        rw [hr, show (decide (0 ≤ i) && decide (i < n)) = false by rw [Bool.and_eq_false_iff, decide_eq_false_iff_not, decide_eq_false_iff_not]; omega]
        exact ⟨rfl, rfl⟩
      rw [q1.1, q1.2] at m1
      clear q1
      refine m1.mono ?_
      rintro r w5 ⟨⟨vs, rfl, hs⟩, hb1⟩
      obtain ⟨a2, ca2, rfl⟩ := hs.slice
      generalize (setL n l' i on).length = ln at hs
      obtain ⟨w6, hw6, e0, e1, -⟩ := allocs1 w5 (.cells #[.int .i64 0, .slice a2 ln ca2] 24)
      have hbb := hb1.trans (e0.mono hb1.size)
      replace hb4 := hb4.trans (hbb.mono hb4.size)
      replace b4 := (hbb.block _ (block_lt b4)).trans b4
      replace hc := hc.below hbb
      clear c0 c1 d0 d1 f0 f1 m1 hb1 e0 e1 hbb hGl hw4
      have c0 := cells_cell (i := 0) b4 (v := .int .i64 n) rfl
      have c1 := cells_cell (i := 1) b4 (v := .slice a' l'.length ca') rfl
      have m1 := right_any2 (n := n) hc
      rw [hr] at m1
      clear hc
      go_wp2_with fail
      refine m1.mono ?_
      rintro r w7 ⟨rfl, hb1⟩
      replace hb4 := hb4.trans (hb1.mono hb4.size)
      clear m1 hb1 hw6
      go_wp2
      go_ret
      exact ⟨rfl, hb4⟩
end Go.Proofs.YtlncilcoohmlkaaDoor

namespace Go.Proofs.YtlncilcoohmlkaaDoor.lawBitsSets
open Go.ChangeShapes Go.WideShapes Go.ChangeAt Go.RowKit
set_option maxRecDepth 100000 in
theorem told (H : Type) (enc : TypeId × Value → H) (W : World) (base : Nat) (args : Array Value) (ds gs : List (DataW H)) (before : List MemPlace)
    (hval : ∀ (j : Nat) t v, Tryd.f3.params[j]? = some t → args[j]? = some v → Value.okWide Tryd.prog W .any base t v)
    (hW : DataW.Whole enc Tryd.prog Tryd.f3.params.toList Rows.bitsSetsSpec.vars false W args.toList ds gs before) (hL : laidMetH Tryd.prog laidL W) :
    Calls Tryd.prog 3 args W fun e W' => ∃ v, e = .returned v ∧ Rows.bitsSetsSpec.post enc Tryd.prog Tryd.f3 false true false false W args v W' := by
  have hW' := hW
  obtain ⟨p, q, hA0, hV, rfl, hfz, hnd⟩ := hW
  have hA : DataW.TrodAll enc Tryd.prog W 0 (fun _ => true) true Tryd.f3.params.toList args.toList ds p := hA0
  rw [Tryd.params3] at hA hval
  obtain ⟨v0, vs0, d0, ds0, p0, q0, hargs, rfl, rfl, h0, r0⟩ := trodAll_cons hA
  obtain ⟨v1, vs1, d1, ds1, p1, q1, rfl, rfl, rfl, h1, r1⟩ := trodAll_cons r0
  obtain ⟨v2, vs2, d2, ds2, p2, q2, rfl, rfl, rfl, h2, r2⟩ := trodAll_cons r1
  obtain ⟨v3, vs3, d3, ds3, p3, q3, rfl, rfl, rfl, h3, r3⟩ := trodAll_cons r2
  obtain ⟨rfl, rfl, rfl⟩ := trodAll_nil r3
  obtain rfl : args = #[v0, v1, v2, v3] := by cases args; simp_all
  obtain ⟨rfl, rfl⟩ := trodVars_none hV
  have k0 := h0
  have k1 := h1
  have k2 := h2
  have k3 := h3
  obtain ⟨n0, u0, l0, rfl, i0⟩ := bits_open (hval 0 24 v0 rfl rfl) h0
  obtain ⟨x1, rfl, rfl, rfl, wx1⟩ := open_int Tryd.underlying3 (hval 1 3 v1 rfl rfl) h1
  obtain ⟨x2, rfl, rfl, rfl, wx2⟩ := open_int Tryd.underlying3 (hval 2 3 v2 rfl rfl) h2
  obtain ⟨x3, rfl, rfl, rfl⟩ := open_bool Tryd.underlying4 (hval 3 4 v3 rfl rfl) h3
  clear hA0
  simp only [List.append_nil] at hW'
  obtain ⟨E, hGl⟩ := glob_of_laid hL
  refine (sets_law hGl i0 x1 x2 x3).mono fun e W' ⟨he, hb⟩ => ?_
  subst he
  have hlt := hW'.lt
  have harg0 := Below.trod laidOut (by kernel_rfl) (of_decide_eq_true (by kernel_rfl)) k0 hb (fun y hy => by first | (cases hy; done) | (simpa using hlt y (by simp [hy])))
  have harg1 := Below.trod laidOut (by kernel_rfl) (of_decide_eq_true (by kernel_rfl)) k1 hb (fun y hy => by first | (cases hy; done) | (simpa using hlt y (by simp [hy])))
  have harg2 := Below.trod laidOut (by kernel_rfl) (of_decide_eq_true (by kernel_rfl)) k2 hb (fun y hy => by first | (cases hy; done) | (simpa using hlt y (by simp [hy])))
  have harg3 := Below.trod laidOut (by kernel_rfl) (of_decide_eq_true (by kernel_rfl)) k3 hb (fun y hy => by first | (cases hy; done) | (simpa using hlt y (by simp [hy])))
  exact ⟨_, rfl, _, _, _, [], _, [], hW', trodAll_cons_mk (shut_bool Tryd.underlying4 _) trodAll_mk0, (trodAll_cons_mk harg0 (trodAll_cons_mk harg1 (trodAll_cons_mk harg2 (trodAll_cons_mk harg3 trodAll_mk0)))), rfl, hb.frame _, fun h => by cases h⟩

set_option maxRecDepth 100000 in
theorem lifted (os : Os) (started : os.Started) (H : Type) (enc : TypeId × Value → H) :
    ReturnsInHanded {} Tryd.checked os 3 .any (fun w args => (Rows.bitsSetsSpec.pre enc Tryd.prog Tryd.f3 [] false w args ∧ laidMetH Tryd.prog laidL w) ∧ sizedMet enc Tryd.prog Tryd.f3 (OpenSpec.ofChange Rows.bitsSetsSpec) false w args)
      (Rows.bitsSetsSpec.post enc Tryd.prog Tryd.f3 false true false false) := by
  refine returnsInHanded_of_change_and (C := Tryd.checked) (X := fun w _ => laidMetH Tryd.prog laidL w) (fun _ _ _ hh h => h.of_heap hh) own started (by kernel_rfl) Tryd.func3
    (ChangeSpec.witness_shaped (enc := enc) (C := Tryd.checked) (os := os) (X := fun w _ => laidMetH Tryd.prog laidL w) false (World.doorLaid Tryd.prog 66 os) #[.agg #[.int .i64 0, .slice none 0 0], .int .i64 0, .int .i64 0, .bool false] 8 rfl (World.shaped_of_RefB (by kernel_rfl) (by kernel_rfl)) (by kernel_rfl) (by kernel_rfl) (by kernel_rfl) (door_met os _)) ?_
  intro W base args ds gs before hval hW _ _ hL _
  exact told H enc W base args ds gs before hval hW hL

theorem said : Rows.BitsSetsSaid :=
  OpenClaim.holds_of_wide 3 Tryd.f3 rfl rfl rfl rfl rfl rfl rfl ⟨rfl, rfl, rfl, rfl, rfl⟩ rfl rfl rfl rfl rfl (by kernel_rfl) Tryd.func3 (by kernel_rfl)
    (of_decide_eq_true (by kernel_rfl)) (by unfold Func.isWrapper; first | (rw [if_pos (by decide +kernel)]; kernel_rfl) | (rw [if_neg (by decide +kernel)]; exact ⟨rfl, rfl⟩))
    (fun os started H enc _ => lifted os started H enc)

theorem plain (f : FuncId) (fn : Func) (hf : Tryd.pinned.checked.prog.funcNamed "selion/selionlaw02.BitsSets" = some f) (hfn : Tryd.pinned.checked.prog.funcs[f]? = some fn) :
    true = Tryd.pinned.checked.prog.looks [] ∧ ∀ (j : Nat) t, fn.params[j]? = some t → Tryd.pinned.checked.prog.wantsStandIn t = false := by
  obtain rfl : f = 3 := Option.some.inj ((show Tryd.prog.funcNamed "selion/selionlaw02.BitsSets" = some 3 by kernel_rfl).symm.trans hf) |>.symm
  obtain rfl : fn = Tryd.f3 := (Option.some.inj (Tryd.func3.symm.trans hfn)).symm
  refine ⟨by kernel_rfl, fun j t ht => ?_⟩
  have hm : t ∈ Tryd.f3.params := Array.mem_of_getElem? ht
  rw [Tryd.params3] at hm
  have hm' : t = 24 ∨ t = 3 ∨ t = 4 := by simpa using hm
  rcases hm' with rfl | rfl | rfl
  · exact (show Tryd.prog.wantsStandIn 24 = false by kernel_rfl)
  · exact (show Tryd.prog.wantsStandIn 3 = false by kernel_rfl)
  · exact (show Tryd.prog.wantsStandIn 4 = false by kernel_rfl)

/-- THE CARD. -/
theorem card : Rows.BitsSetsCardSaid :=
  Claim7.holds_tied_plain_at .later [] _ _ _ _ said (fun _ h => by cases h) (by kernel_rfl) (fun _ h => by cases h) bitsSets_row_tie rfl ⟨rfl, rfl⟩ (by kernel_rfl) rfl plain (by kernel_rfl)
end Go.Proofs.YtlncilcoohmlkaaDoor.lawBitsSets

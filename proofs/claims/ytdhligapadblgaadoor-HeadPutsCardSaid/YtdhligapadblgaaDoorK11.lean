/- Layer head: the document's answer: Decode. -/
import Derived.Test.YtdhligapadblgaaDoorK10
namespace Go.Proofs.YtdhligapadblgaaDoor
open Go.RowKit
attribute [local go_sem ↓] Go.wp_at_zero Go.wp_at_succ

theorem byte_sums2 (n4 n5 n6 : Nat) (h4 : n4 < 256) (h5 : n5 < 256) (h6 : n6 < 256) :
    IntKind.i64.wrap (256 * (n5 : Int)) = (n5 : Int) * 256 ∧ IntKind.i64.wrap ((n4 : Int) + (n5 : Int) * 256) = (n4 : Int) + (n5 : Int) * 256 ∧
    IntKind.i64.wrap (65536 * (n6 : Int)) = (n6 : Int) * 256 * 256 ∧ IntKind.i64.wrap ((n4 : Int) + (n5 : Int) * 256 + (n6 : Int) * 256 * 256) = (n4 : Int) + (n5 : Int) * 256 + (n6 : Int) * 256 * 256 :=
  ⟨by rw [IntWalk.i64_in _ (by omega)]; omega, IntWalk.i64_in _ (by omega), by rw [IntWalk.i64_in _ (by omega)]; omega, IntWalk.i64_in _ (by omega)⟩

set_option maxHeartbeats 4000000 in
set_option maxRecDepth 40000 in
theorem decodeRef_any {w : World} (s : ByteArray) :
    Calls Tryd.prog 14 #[.string s] w fun r w' => r = .returned (.tuple #[.agg #[.int .i64 (decX (decB s) (decK s)), .int .i64 (decX (decB s) (decL s)), .int .i64 (decX (decB s) (decC s)), .int .i64 (decX (decB s) (decT s))], .int .i64 (decE s)]) ∧ Below w.heap.size w w' := by
  obtain ⟨w1, hw1, a0, a1, a2⟩ := allocs1 w (.cells #[.int .i64 0, .int .i64 0, .int .i64 0, .int .i64 0] 23)
  by_cases hs : s.size = 8
  case neg =>
    have hb : decB s = false := by unfold decB; rw [decide_eq_false hs]; rfl
    have HBF := Lib.hid hb
    have g0 : ((s.size : Int) != 8) = true := by simp; omega
    have o0 := cells_cell (i := 0) a2 (v := .int .i64 0) rfl
    have o1 := cells_cell (i := 1) a2 (v := .int .i64 0) rfl
    have o2 := cells_cell (i := 2) a2 (v := .int .i64 0) rfl
    have o3 := cells_cell (i := 3) a2 (v := .int .i64 0) rfl
    have l0 := cells_free (i := 0) a2
    have l1 := cells_free (i := 1) a2
    have l2 := cells_free (i := 2) a2
    have l3 := cells_free (i := 3) a2
    obtain ⟨W6, hW6, hB6, e6⟩ := mark_stored (a' := .int .i64 0) (b' := .int .i64 0) (c' := .int .i64 0) (d' := .int .i64 0) a0 (Nat.le_refl _) a2
    have E6 := Lib.hid e6
    have HB6 := Lib.hid hB6
    clear hs hb a1 a2 e6 hB6 a0
    go_enter Tryd.func14, Tryd.ntmps14
    go_wp2
    exact bodyPost_ret (results_mark_tmp rfl _ _ w.heap.size _ _ _ _ rfl E6.out) rfl ⟨by unfold decE decX; rw [HBF.out]; rfl, HB6.out⟩
  obtain ⟨n1, x1, e1, p1⟩ := byte_at hs 1 (by decide)
  obtain ⟨n2, x2, e2, p2⟩ := byte_at hs 2 (by decide)
  obtain ⟨n3, x3, e3, p3⟩ := byte_at hs 3 (by decide)
  obtain ⟨n4, x4, e4, p4⟩ := byte_at hs 4 (by decide)
  obtain ⟨n5, x5, e5, p5⟩ := byte_at hs 5 (by decide)
  obtain ⟨n6, x6, e6, p6⟩ := byte_at hs 6 (by decide)
  have q1 : (1 : Int) < (s.size : Int) := by rw [hs]; decide
  have q2 : (2 : Int) < (s.size : Int) := by rw [hs]; decide
  have q3 : (3 : Int) < (s.size : Int) := by rw [hs]; decide
  have q4 : (4 : Int) < (s.size : Int) := by rw [hs]; decide
  have q5 : (5 : Int) < (s.size : Int) := by rw [hs]; decide
  have q6 : (6 : Int) < (s.size : Int) := by rw [hs]; decide
  have g0 : ((s.size : Int) != 8) = false := by rw [hs]; decide
  have hB : decB s = (rightM (decK s) (decL s) (decC s) (decT s) && decide (encI (decK s) (decL s) (decC s) (decT s) = s)) := by unfold decB; rw [decide_eq_true hs]; rfl
  unfold decE
  rw [hB]
  unfold decK decL decC decT
  rw [e1, e2, e3, e4, e5, e6]
  have v1 := (byte_small n1 p1).1
  have u1 := (byte_small n1 p1).2
  have v2 := (byte_small n2 p2).1
  have u2 := (byte_small n2 p2).2
  have v3 := (byte_small n3 p3).1
  have u3 := (byte_small n3 p3).2
  have v4 := (byte_small n4 p4).1
  have u4 := (byte_small n4 p4).2
  have v5 := (byte_small n5 p5).1
  have u5 := (byte_small n5 p5).2
  have v6 := (byte_small n6 p6).1
  have u6 := (byte_small n6 p6).2
  obtain ⟨v7, v8, v10, v11⟩ := byte_sums2 n4 n5 n6 p4 p5 p6
  obtain ⟨W2, hW2, f0, -, f2⟩ := allocs1 w1 (.cells #[.int .i64 (n1 : Int), .int .i64 ((n4 : Int) + (n5 : Int) * 256 + (n6 : Int) * 256 * 256), .int .i64 (n2 : Int), .int .i64 (n3 : Int)] 23)
  clear hs e1 e2 e3 e4 e5 e6 p1 p2 p3 p4 p5 p6 hB a1
  go_enter Tryd.func14, Tryd.ntmps14
  go_wp2
  clear hw1
  have HC : Below w1.heap.size w1 w1 := Below.refl _ _
  refine wp_region_held_drew (S := (fun W' => Below w1.heap.size w1 W')) (by kernel_rfl) HC.drew (fun hHeld => ?_)
  refine wpAnyH_take (i := 0) (oi := ?o0) (v := ?v0) ?hi0 (by kernel_rfl) (by kernel_rfl) (by kernel_rfl) ?hq0 (Or.inl ⟨?hw0, ?hy0⟩) (by assumption) ?_
  case hi0 => simp only [List.getElem?_toArray, List.getElem?_cons_zero]; rfl
  case hq0 => exact fun _ _ _ h => h
  case hw0 => rfl
  case hy0 => (intro w hSw; (try dsimp only at hSw); go_simp; try with_reducible rfl)
  try simp only [Act.put, List.setIfInBounds_toArray, List.set_cons_zero, List.set_cons_succ]
  refine wpAnyH_take (i := 1) (oi := ?o1) (v := ?v1) ?hi1 (by kernel_rfl) (by kernel_rfl) (by kernel_rfl) ?hq1 (Or.inl ⟨?hw1, ?hy1⟩) (by assumption) ?_
  case hi1 => simp only [List.getElem?_toArray, List.getElem?_cons_succ, List.getElem?_cons_zero]; rfl
  case hq1 => exact fun _ _ _ h => h
  case hw1 => rfl
  case hy1 => (intro w hSw; (try dsimp only at hSw); go_simp; try with_reducible rfl)
  try simp only [Act.put, List.setIfInBounds_toArray, List.set_cons_zero, List.set_cons_succ]
  refine wpAnyH_take (i := 2) (oi := ?o2) (v := ?v2) ?hi2 (by kernel_rfl) (by kernel_rfl) (by kernel_rfl) ?hq2 (Or.inl ⟨?hw2, ?hy2⟩) (by assumption) ?_
  case hi2 => simp only [List.getElem?_toArray, List.getElem?_cons_succ, List.getElem?_cons_zero]; rfl
  case hq2 => exact fun _ _ _ h => h
  case hw2 => rfl
  case hy2 => (intro w hSw; (try dsimp only at hSw); go_simp; try with_reducible rfl)
  try simp only [Act.put, List.setIfInBounds_toArray, List.set_cons_zero, List.set_cons_succ]
  refine wpAnyH_take (i := 3) (oi := ?o3) (v := ?v3) ?hi3 (by kernel_rfl) (by kernel_rfl) (by kernel_rfl) ?hq3 (Or.inl ⟨?hw3, ?hy3⟩) (by assumption) ?_
  case hi3 => simp only [List.getElem?_toArray, List.getElem?_cons_succ, List.getElem?_cons_zero]; rfl
  case hq3 => exact fun _ _ _ h => h
  case hw3 => rfl
  case hy3 => (intro w hSw; (try dsimp only at hSw); go_simp; try with_reducible rfl)
  try simp only [Act.put, List.setIfInBounds_toArray, List.set_cons_zero, List.set_cons_succ]
  refine wpAnyH_take (i := 4) (oi := ?o4) (v := ?v4) ?hi4 (by kernel_rfl) (by kernel_rfl) (by kernel_rfl) ?hq4 (Or.inl ⟨?hw4, ?hy4⟩) (by assumption) ?_
  case hi4 => simp only [List.getElem?_toArray, List.getElem?_cons_succ, List.getElem?_cons_zero]; rfl
  case hq4 => exact fun _ _ _ h => h
  case hw4 => rfl
  case hy4 => (intro w hSw; (try dsimp only at hSw); go_simp; try with_reducible rfl)
  try simp only [Act.put, List.setIfInBounds_toArray, List.set_cons_zero, List.set_cons_succ]
  refine wpAnyH_take (i := 5) (oi := ?o5) (v := ?v5) ?hi5 (by kernel_rfl) (by kernel_rfl) (by kernel_rfl) ?hq5 (Or.inl ⟨?hw5, ?hy5⟩) (by assumption) ?_
  case hi5 => simp only [List.getElem?_toArray, List.getElem?_cons_succ, List.getElem?_cons_zero]; rfl
  case hq5 => exact fun _ _ _ h => h
  case hw5 => rfl
  case hy5 => (intro w hSw; (try dsimp only at hSw); go_simp; try with_reducible rfl)
  try simp only [Act.put, List.setIfInBounds_toArray, List.set_cons_zero, List.set_cons_succ]
  refine wpAnyH_take (i := 6) (oi := ?o6) (v := ?v6) ?hi6 (by kernel_rfl) (by kernel_rfl) (by kernel_rfl) ?hq6 (Or.inl ⟨?hw6, ?hy6⟩) (by assumption) ?_
  case hi6 => simp only [List.getElem?_toArray, List.getElem?_cons_succ, List.getElem?_cons_zero]; rfl
  case hq6 => exact fun _ _ _ h => h
  case hw6 => rfl
  case hy6 => (intro w hSw; (try dsimp only at hSw); go_simp; try with_reducible rfl)
  try simp only [Act.put, List.setIfInBounds_toArray, List.set_cons_zero, List.set_cons_succ]
  refine wpAnyH_take (i := 7) (oi := ?o7) (v := ?v7) ?hi7 (by kernel_rfl) (by kernel_rfl) (by kernel_rfl) ?hq7 (Or.inl ⟨?hw7, ?hy7⟩) (by assumption) ?_
  case hi7 => simp only [List.getElem?_toArray, List.getElem?_cons_succ, List.getElem?_cons_zero]; rfl
  case hq7 => exact fun _ _ _ h => h
  case hw7 => rfl
  case hy7 => (intro w hSw; (try dsimp only at hSw); go_simp; try with_reducible rfl)
  try simp only [Act.put, List.setIfInBounds_toArray, List.set_cons_zero, List.set_cons_succ]
  refine wpAnyH_take (i := 8) (oi := ?o8) (v := ?v8) ?hi8 (by kernel_rfl) (by kernel_rfl) (by kernel_rfl) ?hq8 (Or.inl ⟨?hw8, ?hy8⟩) (by assumption) ?_
  case hi8 => simp only [List.getElem?_toArray, List.getElem?_cons_succ, List.getElem?_cons_zero]; rfl
  case hq8 => exact fun _ _ _ h => h
  case hw8 => rfl
  case hy8 => (intro w hSw; (try dsimp only at hSw); go_simp; try with_reducible rfl)
  try simp only [Act.put, List.setIfInBounds_toArray, List.set_cons_zero, List.set_cons_succ]
  refine wpAnyH_take (i := 9) (oi := ?o9) (v := ?v9) ?hi9 (by kernel_rfl) (by kernel_rfl) (by kernel_rfl) ?hq9 (Or.inl ⟨?hw9, ?hy9⟩) (by assumption) ?_
  case hi9 => simp only [List.getElem?_toArray, List.getElem?_cons_succ, List.getElem?_cons_zero]; rfl
  case hq9 => exact fun _ _ _ h => h
  case hw9 => rfl
  case hy9 => (intro w hSw; (try dsimp only at hSw); go_simp; try with_reducible rfl)
  try simp only [Act.put, List.setIfInBounds_toArray, List.set_cons_zero, List.set_cons_succ]
  refine wpAnyH_take (i := 10) (oi := ?o10) (v := ?v10) ?hi10 (by kernel_rfl) (by kernel_rfl) (by kernel_rfl) ?hq10 (Or.inl ⟨?hw10, ?hy10⟩) (by assumption) ?_
  case hi10 => simp only [List.getElem?_toArray, List.getElem?_cons_succ, List.getElem?_cons_zero]; rfl
  case hq10 => exact fun _ _ _ h => h
  case hw10 => rfl
  case hy10 => (intro w hSw; (try dsimp only at hSw); go_simp; try with_reducible rfl)
  try simp only [Act.put, List.setIfInBounds_toArray, List.set_cons_zero, List.set_cons_succ]
  refine wpAnyH_take (i := 11) (oi := ?o11) (v := ?v11) ?hi11 (by kernel_rfl) (by kernel_rfl) (by kernel_rfl) ?hq11 (Or.inl ⟨?hw11, ?hy11⟩) (by assumption) ?_
  case hi11 => simp only [List.getElem?_toArray, List.getElem?_cons_succ, List.getElem?_cons_zero]; rfl
  case hq11 => exact fun _ _ _ h => h
  case hw11 => rfl
  case hy11 => (intro w hSw; (try dsimp only at hSw); go_simp; try with_reducible rfl)
  try simp only [Act.put, List.setIfInBounds_toArray, List.set_cons_zero, List.set_cons_succ]
  refine wpAnyH_take (i := 12) (oi := ?o12) (v := ?v12) ?hi12 (by kernel_rfl) (by kernel_rfl) (by kernel_rfl) ?hq12 (Or.inl ⟨?hw12, ?hy12⟩) (by assumption) ?_
  case hi12 => simp only [List.getElem?_toArray, List.getElem?_cons_succ, List.getElem?_cons_zero]; rfl
  case hq12 => exact fun _ _ _ h => h
  case hw12 => rfl
  case hy12 => (intro w hSw; (try dsimp only at hSw); go_simp; try with_reducible rfl)
  try simp only [Act.put, List.setIfInBounds_toArray, List.set_cons_zero, List.set_cons_succ]
  refine wpAnyH_take (i := 13) (oi := ?o13) (v := ?v13) ?hi13 (by kernel_rfl) (by kernel_rfl) (by kernel_rfl) ?hq13 (Or.inl ⟨?hw13, ?hy13⟩) (by assumption) ?_
  case hi13 => simp only [List.getElem?_toArray, List.getElem?_cons_succ, List.getElem?_cons_zero]; rfl
  case hq13 => exact fun _ _ _ h => h
  case hw13 => rfl
  case hy13 => (intro w hSw; (try dsimp only at hSw); go_simp; try with_reducible rfl)
  try simp only [Act.put, List.setIfInBounds_toArray, List.set_cons_zero, List.set_cons_succ]
  refine wpAnyH_take (i := 14) (oi := ?o14) (v := ?v14) ?hi14 (by kernel_rfl) (by kernel_rfl) (by kernel_rfl) ?hq14 (Or.inl ⟨?hw14, ?hy14⟩) (by assumption) ?_
  case hi14 => simp only [List.getElem?_toArray, List.getElem?_cons_succ, List.getElem?_cons_zero]; rfl
  case hq14 => exact fun _ _ _ h => h
  case hw14 => rfl
  case hy14 => (intro w hSw; (try dsimp only at hSw); go_simp; try with_reducible rfl)
  try simp only [Act.put, List.setIfInBounds_toArray, List.set_cons_zero, List.set_cons_succ]
  refine wpAnyH_take (i := 15) (oi := ?o15) (v := ?v15) ?hi15 (by kernel_rfl) (by kernel_rfl) (by kernel_rfl) ?hq15 (Or.inl ⟨?hw15, ?hy15⟩) (by assumption) ?_
  case hi15 => simp only [List.getElem?_toArray, List.getElem?_cons_succ, List.getElem?_cons_zero]; rfl
  case hq15 => exact fun _ _ _ h => h
  case hw15 => rfl
  case hy15 => (intro w hSw; (try dsimp only at hSw); go_simp; try with_reducible rfl)
  try simp only [Act.put, List.setIfInBounds_toArray, List.set_cons_zero, List.set_cons_succ]
  refine wpAnyH_take (i := 16) (oi := ?o16) (v := ?v16) ?hi16 (by kernel_rfl) (by kernel_rfl) (by kernel_rfl) ?hq16 (Or.inl ⟨?hw16, ?hy16⟩) (by assumption) ?_
  case hi16 => simp only [List.getElem?_toArray, List.getElem?_cons_succ, List.getElem?_cons_zero]; rfl
  case hq16 => exact fun _ _ _ h => h
  case hw16 => rfl
  case hy16 => (intro w hSw; (try dsimp only at hSw); go_simp; try with_reducible rfl)
  try simp only [Act.put, List.setIfInBounds_toArray, List.set_cons_zero, List.set_cons_succ]
  refine wpAnyH_take (i := 17) (oi := ?o17) (v := ?v17) ?hi17 (by kernel_rfl) (by kernel_rfl) (by kernel_rfl) ?hq17 (Or.inl ⟨?hw17, ?hy17⟩) (by assumption) ?_
  case hi17 => simp only [List.getElem?_toArray, List.getElem?_cons_succ, List.getElem?_cons_zero]; rfl
  case hq17 => exact fun _ _ _ h => h
  case hw17 => rfl
  case hy17 => (intro w hSw; (try dsimp only at hSw); go_simp; try with_reducible rfl)
  try simp only [Act.put, List.setIfInBounds_toArray, List.set_cons_zero, List.set_cons_succ]
  refine wpAnyH_take (i := 18) (oi := ?o18) (v := ?v18) ?hi18 (by kernel_rfl) (by kernel_rfl) (by kernel_rfl) ?hq18 (Or.inl ⟨?hw18, ?hy18⟩) (by assumption) ?_
  case hi18 => simp only [List.getElem?_toArray, List.getElem?_cons_succ, List.getElem?_cons_zero]; rfl
  case hq18 => exact fun _ _ _ h => h
  case hw18 => rfl
  case hy18 => (intro w hSw; (try dsimp only at hSw); go_simp; try with_reducible rfl)
  try simp only [Act.put, List.setIfInBounds_toArray, List.set_cons_zero, List.set_cons_succ]
  refine wpAnyH_take (i := 19) (oi := ?o19) (v := ?v19) ?hi19 (by kernel_rfl) (by kernel_rfl) (by kernel_rfl) ?hq19 (Or.inl ⟨?hw19, ?hy19⟩) (by assumption) ?_
  case hi19 => simp only [List.getElem?_toArray, List.getElem?_cons_succ, List.getElem?_cons_zero]; rfl
  case hq19 => exact fun _ _ _ h => h
  case hw19 => rfl
  case hy19 => (intro w hSw; (try dsimp only at hSw); go_simp; try with_reducible rfl)
  try simp only [Act.put, List.setIfInBounds_toArray, List.set_cons_zero, List.set_cons_succ]
  refine wpAnyH_take (i := 20) (oi := ?o20) (v := ?v20) ?hi20 (by kernel_rfl) (by kernel_rfl) (by kernel_rfl) ?hq20 (Or.inl ⟨?hw20, ?hy20⟩) (by assumption) ?_
  case hi20 => simp only [List.getElem?_toArray, List.getElem?_cons_succ, List.getElem?_cons_zero]; rfl
  case hq20 => exact fun _ _ _ h => h
  case hw20 => rfl
  case hy20 => (intro w hSw; (try dsimp only at hSw); go_simp; try with_reducible rfl)
  try simp only [Act.put, List.setIfInBounds_toArray, List.set_cons_zero, List.set_cons_succ]
  refine wpAnyH_take (i := 21) (oi := ?o21) (v := ?v21) ?hi21 (by kernel_rfl) (by kernel_rfl) (by kernel_rfl) ?hq21 (Or.inl ⟨?hw21, ?hy21⟩) (by assumption) ?_
  case hi21 => simp only [List.getElem?_toArray, List.getElem?_cons_succ, List.getElem?_cons_zero]; rfl
  case hq21 => exact fun _ _ _ h => h
  case hw21 => rfl
  case hy21 => (intro w hSw; (try dsimp only at hSw); go_simp; try with_reducible rfl)
  try simp only [Act.put, List.setIfInBounds_toArray, List.set_cons_zero, List.set_cons_succ]
  refine wpAnyH_take (i := 22) (oi := ?o22) (v := ?v22) ?hi22 (by kernel_rfl) (by kernel_rfl) (by kernel_rfl) ?hq22 (Or.inl ⟨?hw22, ?hy22⟩) (by assumption) ?_
  case hi22 => simp only [List.getElem?_toArray, List.getElem?_cons_succ, List.getElem?_cons_zero]; rfl
  case hq22 => exact fun _ _ _ h => h
  case hw22 => rfl
  case hy22 => (intro w hSw; (try dsimp only at hSw); go_simp; try with_reducible rfl)
  try simp only [Act.put, List.setIfInBounds_toArray, List.set_cons_zero, List.set_cons_succ]
  refine wpAnyH_ready (rs := [23]) (by kernel_rfl) (by simp) (AllReadyH.cons (o := ?o23) ?hi23 (fun K hK => ?step23) AllReadyH.nil)
  case hi23 => simp only [List.getElem?_toArray, List.getElem?_cons_succ, List.getElem?_cons_zero]; rfl
  case step23 =>
    go_simp
    refine hK.out _ _ (HC.drew.alloc HC.drew.size _) (fun hHeld => ?_)
    clear hK K
    try simp only [Act.put, List.setIfInBounds_toArray, List.set_cons_zero, List.set_cons_succ]
    refine wpAnyH_ready (rs := [24]) (by kernel_rfl) (by simp) (AllReadyH.cons (o := ?o24) ?hi24 (fun K hK => ?step24) AllReadyH.nil)
    case hi24 => simp only [List.getElem?_toArray, List.getElem?_cons_succ, List.getElem?_cons_zero]; rfl
    case step24 =>
      go_simp
      refine hK.out _ _ f0.drew (fun hHeld => ?_)
      clear hK K
      try simp only [Act.put, List.setIfInBounds_toArray, List.set_cons_zero, List.set_cons_succ]
      refine wpAnyH_done (by kernel_rfl) ?_ 0
      obtain ⟨W3, hW3⟩ : ∃ W3, W2.drew = W3 := ⟨_, rfl⟩
      have f3 : W3.heap[w1.heap.size]? = _ := (show W3.heap[w1.heap.size]? = W2.heap[w1.heap.size]? by rw [← hW3]; rfl).trans f2
      have hB3 : Below w1.heap.size w1 W3 := by rw [← hW3]; exact f0.drew
      rw [hW3]
      have a3 := (hB3.block _ (block_lt a2)).trans a2
      have hBw := blH a0 hB3
      have ENC := encodeRef_any (w := W3) (n1 : Int) ((n4 : Int) + (n5 : Int) * 256 + (n6 : Int) * 256 * 256) (n2 : Int) (n3 : Int)
      generalize hLL : (n4 : Int) + (n5 : Int) * 256 + (n6 : Int) * 256 * 256 = L at *
      have HLL := Lib.hid hLL
      clear hLL
      have d0 := cells_cell (i := 0) f3 (v := .int .i64 (n1 : Int)) rfl
      have d1 := cells_cell (i := 1) f3 (v := .int .i64 L) rfl
      have d2 := cells_cell (i := 2) f3 (v := .int .i64 (n2 : Int)) rfl
      have d3 := cells_cell (i := 3) f3 (v := .int .i64 (n3 : Int)) rfl
      clear v1 v2 v3 v4 v5 v6 u1 u2 u3 u4 u5 u6 v7 v8 v10 v11 x1 x2 x3 x4 x5 x6 q1 q2 q3 q4 q5 q6 hW3 hW2 f2 f0 hB3 a2 a0 hHeld HC
      go_wp2_with fail
      refine ENC.mono ?_
      rintro r W4 ⟨rfl, hb⟩
      have f4 := (hb.block _ (block_lt f3)).trans f3
      have a4 := (hb.block _ (block_lt a3)).trans a3
      have hB4 := blH hBw hb
      have d0 := cells_cell (i := 0) f4 (v := .int .i64 (n1 : Int)) rfl
      have d1 := cells_cell (i := 1) f4 (v := .int .i64 L) rfl
      have d2 := cells_cell (i := 2) f4 (v := .int .i64 (n2 : Int)) rfl
      have d3 := cells_cell (i := 3) f4 (v := .int .i64 (n3 : Int)) rfl
      have o0 := cells_cell (i := 0) a4 (v := .int .i64 0) rfl
      have o1 := cells_cell (i := 1) a4 (v := .int .i64 0) rfl
      have o2 := cells_cell (i := 2) a4 (v := .int .i64 0) rfl
      have o3 := cells_cell (i := 3) a4 (v := .int .i64 0) rfl
      have l0 := cells_free (i := 0) a4
      have l1 := cells_free (i := 1) a4
      have l2 := cells_free (i := 2) a4
      have l3 := cells_free (i := 3) a4
      clear ENC f3 a3 hBw hb
      obtain ⟨x, hx⟩ : ∃ x, encI (n1 : Int) L (n2 : Int) (n3 : Int) = x := ⟨_, rfl⟩
      have HX := Lib.hid hx
      obtain ⟨W6, hW6, hB6, e6⟩ := mark_stored (a' := .int .i64 0) (b' := .int .i64 0) (c' := .int .i64 0) (d' := .int .i64 0) hB4 (Nat.le_refl _) a4
      have E6 := Lib.hid e6
      have HB6 := Lib.hid hB6
      clear e6 hB6
      cases hr : rightM (n1 : Int) L (n2 : Int) (n3 : Int) with
      | false =>
        have HR := Lib.hid hr
        have ee : encE (n1 : Int) L (n2 : Int) (n3 : Int) = 60 := by unfold encE; rw [hr]; rfl
        rw [ee, hx]
        clear hr hx ee d0 d1 d2 d3 a4 f4 hB4
        go_wp2
        exact bodyPost_ret (results_mark_tmp rfl _ _ w.heap.size _ _ _ _ rfl E6.out) rfl ⟨by rw [HLL.out, HR.out]; rfl, HB6.out⟩
      | true =>
        have HR := Lib.hid hr
        have ee : encE (n1 : Int) L (n2 : Int) (n3 : Int) = 0 := by unfold encE; rw [hr]; rfl
        rw [ee, hx]
        by_cases hxs : x = s
        · have g1 : (x.toList == s.toList) = true := by rw [str_eq, decide_eq_true hxs]
          have HXS := Lib.hid hxs
          obtain ⟨W7, hW7, hB7, e7⟩ := mark_stored (a' := .int .i64 (n1 : Int)) (b' := .int .i64 L) (c' := .int .i64 (n2 : Int)) (d' := .int .i64 (n3 : Int)) hB4 (Nat.le_refl _) a4
          have E7 := Lib.hid e7
          have HB7 := Lib.hid hB7
          clear hr hx ee a4 f4 e7 hB7 hB4 hxs hW6
          go_wp2
          exact bodyPost_ret (results_mark_tmp rfl _ _ w.heap.size _ _ _ _ rfl E7.out) rfl ⟨by rw [HLL.out, HR.out, HX.out, decide_eq_true HXS.out]; rfl, HB7.out⟩
        · have g1 : (x.toList == s.toList) = false := by rw [str_eq, decide_eq_false hxs]
          have HXS := Lib.hid hxs
          clear hr hx ee d0 d1 d2 d3 a4 f4 hB4 hxs
          go_wp2
          exact bodyPost_ret (results_mark_tmp rfl _ _ w.heap.size _ _ _ _ rfl E6.out) rfl ⟨by rw [HLL.out, HR.out, HX.out, decide_eq_false HXS.out]; rfl, HB6.out⟩
end Go.Proofs.YtdhligapadblgaaDoor

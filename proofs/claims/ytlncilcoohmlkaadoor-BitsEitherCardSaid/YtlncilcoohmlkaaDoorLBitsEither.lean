/- BitsEither holds of all bits, places: the law's own text walked, and the card. -/
import Derived.Test.YtlncilcoohmlkaaDoorU10
import Derived.Test.YtlncilcoohmlkaaDoorU11
import Derived.Test.YtlncilcoohmlkaaDoorP6
import Derived.Test.YtlncilcoohmlkaaDoorBx
import Derived.Test.YtlncilcoohmlkaaDoorG2
import Derived.Test.YtlncilcoohmlkaaDoorCards
import Derived.Test.YtlncilcoohmlkaaDoorTie
import Derived.BigQuiet
import Derived.Deep.RegionHeld3
namespace Go.Proofs.YtlncilcoohmlkaaDoor
open Go.RowKit
attribute [local go_sem ↓] Go.wp_at_zero Go.wp_at_succ

theorem bl {w W W' : World} (h : Below w.heap.size w W) (h' : Below W.heap.size W W') : Below w.heap.size w W' := h.trans (h'.mono h.size)

set_option maxHeartbeats 8000000 in
set_option maxRecDepth 20000 in
theorem either_law {E : Env2} {w : World} (hGl : Glob2 E w) {n m : Int} {v u : Value} {ws us : List Nat} (hv : WordsV w v ws) (hu : WordsV w u us) (i : Int) :
    Calls Tryd.prog 10 #[.agg #[.int .i64 n, v], .agg #[.int .i64 m, u], .int .i64 i] w fun r w' => r = .returned (.bool true) ∧ Below w.heap.size w w' := by
  generalize hl' : ws.take 12 = l1
  generalize hm' : us.take 12 = l2
  have HL := Lib.hid hl'
  have HM := Lib.hid hm'
  obtain ⟨a, ca, rfl⟩ := hv.slice
  obtain ⟨b, cb, rfl⟩ := hu.slice
  obtain ⟨w1, hw1, e0, -, b1, b2⟩ := allocs2 w (.cells #[.int .i64 n, .slice a ws.length ca] 24) (.cells #[.int .i64 m, .slice b us.length cb] 24)
  have hb := e0
  have HG := Lib.hid hGl
  replace hGl := hGl.below e0
  replace hv := hv.below e0
  replace hu := hu.below e0
  have m1 := shown_any hGl
  clear hl' hm' e0
  go_enter Tryd.func10, Tryd.ntmps10
  go_wp2_with fail
  refine m1.mono ?_
  rintro r w2 ⟨rfl, hb1⟩
  replace hb := hb.trans (hb1.mono hb.size)
  replace hGl := hGl.below hb1
  replace hv := hv.below hb1
  replace hu := hu.below hb1
  replace b1 := (hb1.block _ (block_lt b1)).trans b1
  replace b2 := (hb1.block _ (block_lt b2)).trans b2
  clear m1 hb1 hw1
  have c0 := cells_cell (i := 0) b1 (v := .int .i64 n) rfl
  have c1 := cells_cell (i := 1) b1 (v := .slice a ws.length ca) rfl
  have m1 := cut_any2 (n := n) hv
  rw [HL.out] at m1
  clear HL
  go_wp2_with fail
  refine m1.mono ?_
  rintro r w3 ⟨⟨vc, rfl, hc⟩, hb1⟩
  obtain ⟨a', ca', rfl⟩ := hc.slice
  replace hb := hb.trans (hb1.mono hb.size)
  replace hu := hu.below hb1
  replace b1 := (hb1.block _ (block_lt b1)).trans b1
  replace b2 := (hb1.block _ (block_lt b2)).trans b2
  clear m1 hb1 hGl hv c0 c1
  obtain ⟨w4, hw4, hb4, hGl, hW, b1', hk⟩ := rebox HG.out hb (Nat.le_refl _) b1 n a' l1.length ca'
  replace hc := hW _ _ hc
  replace hu := hW _ _ hu
  replace b2 := (hk (w.heap.size + 1) (by omega)).trans b2
  have c0 := cells_cell (i := 0) b1 (v := .int .i64 n) rfl
  have c1 := cells_cell (i := 1) b1 (v := .slice a ws.length ca) rfl
  have f0 := cells_free (i := 0) b1
  have f1 := cells_free (i := 1) b1
  have d0 := cells_cell (i := 0) b2 (v := .int .i64 m) rfl
  have d1 := cells_cell (i := 1) b2 (v := .slice b us.length cb) rfl
  have m1 := cut_any2 (n := m) hu
  rw [HM.out] at m1
  clear HM b1 hW hb hk
  go_wp2_with fail
  refine m1.mono ?_
  rintro r w5 ⟨⟨vd, rfl, hd⟩, hb1⟩
  obtain ⟨b', cb', rfl⟩ := hd.slice
  replace hb4 := hb4.trans (hb1.mono hb4.size)
  replace hc := hc.below hb1
  replace b1' := (hb1.block _ (block_lt b1')).trans b1'
  replace b2 := (hb1.block _ (block_lt b2)).trans b2
  clear m1 hb1 hGl hu c0 c1 d0 d1 f0 f1 hw4
  obtain ⟨w6, hw6, hb6, hGl, hW, b2', hk⟩ := rebox HG.out hb4 (Nat.le_add_right _ 1) b2 m b' l2.length cb'
  replace hc := hW _ _ hc
  replace hd := hW _ _ hd
  replace b1' := (hk w.heap.size (by omega)).trans b1'
  have d0 := cells_cell (i := 0) b2 (v := .int .i64 m) rfl
  have d1 := cells_cell (i := 1) b2 (v := .slice b us.length cb) rfl
  have f0 := cells_free (i := 0) b2
  have f1 := cells_free (i := 1) b2
  have c0 := cells_cell (i := 0) b1' (v := .int .i64 n) rfl
  have c1 := cells_cell (i := 1) b1' (v := .slice a' l1.length ca') rfl
  have o0 := cells_cell (i := 0) b2' (v := .int .i64 m) rfl
  have o1 := cells_cell (i := 1) b2' (v := .slice b' l2.length cb') rfl
  clear b2 hW hb4 hk
  have m1 := either_any hGl (n := n) (m := m) hc hd
  go_wp2_with fail
  refine m1.mono ?_
  rintro r w7 ⟨⟨vr, rfl, hx⟩, hb1⟩
  obtain ⟨x, cx, rfl⟩ := hx.slice
  obtain ⟨w8, hw8, e0, -, bx⟩ := allocs1 w7 (.cells #[.int .i64 (eitherN n l1 m l2), .slice x (eitherL n l1 m l2).length cx] 24)
  have hbb := hb1.trans (e0.mono hb1.size)
  replace hb6 := hb6.trans (hbb.mono hb6.size)
  replace b1' := (hbb.block _ (block_lt b1')).trans b1'
  replace b2' := (hbb.block _ (block_lt b2')).trans b2'
  replace hc := hc.below hbb
  replace hd := hd.below hbb
  replace hx := hx.below e0
  replace hGl := hGl.below hbb
  clear m1 hb1 e0 hbb c0 c1 d0 d1 o0 o1 f0 f1 hw6
  have c0 := cells_cell (i := 0) b1' (v := .int .i64 (n)) rfl
  have c1 := cells_cell (i := 1) b1' (v := .slice a' l1.length ca') rfl
  have o0 := cells_cell (i := 0) b2' (v := .int .i64 (m)) rfl
  have o1 := cells_cell (i := 1) b2' (v := .slice b' l2.length cb') rfl
  have m1 := either_any hGl (n := m) (m := n) hd hc
  go_wp2_with fail
  refine m1.mono ?_
  rintro r w9 ⟨⟨vr, rfl, hy⟩, hb1⟩
  obtain ⟨y, cy, rfl⟩ := hy.slice
  obtain ⟨w10, hw10, e0, -, bY⟩ := allocs1 w9 (.cells #[.int .i64 (eitherN m l2 n l1), .slice y (eitherL m l2 n l1).length cy] 24)
  have hbb := hb1.trans (e0.mono hb1.size)
  replace hb6 := hb6.trans (hbb.mono hb6.size)
  replace b1' := (hbb.block _ (block_lt b1')).trans b1'
  replace b2' := (hbb.block _ (block_lt b2')).trans b2'
  replace bx := (hbb.block _ (block_lt bx)).trans bx
  replace hc := hc.below hbb
  replace hd := hd.below hbb
  replace hx := hx.below hbb
  replace hy := hy.below e0
  replace hGl := hGl.below hbb
  clear m1 hb1 e0 hbb c0 c1 o0 o1 hw8
  have c0 := cells_cell (i := 0) b1' (v := .int .i64 (n)) rfl
  have c1 := cells_cell (i := 1) b1' (v := .slice a' l1.length ca') rfl
  have m1 := either_any hGl (n := n) (m := n) hc hc
  go_wp2_with fail
  refine m1.mono ?_
  rintro r w11 ⟨⟨vr, rfl, hz⟩, hb1⟩
  obtain ⟨z, cz, rfl⟩ := hz.slice
  obtain ⟨w12, hw12, e0, -, bz⟩ := allocs1 w11 (.cells #[.int .i64 (eitherN n l1 n l1), .slice z (eitherL n l1 n l1).length cz] 24)
  have hbb := hb1.trans (e0.mono hb1.size)
  replace hb6 := hb6.trans (hbb.mono hb6.size)
  replace b1' := (hbb.block _ (block_lt b1')).trans b1'
  replace b2' := (hbb.block _ (block_lt b2')).trans b2'
  replace bx := (hbb.block _ (block_lt bx)).trans bx
  replace bY := (hbb.block _ (block_lt bY)).trans bY
  replace hc := hc.below hbb
  replace hd := hd.below hbb
  replace hx := hx.below hbb
  replace hy := hy.below hbb
  replace hz := hz.below e0
  replace hGl := hGl.below hbb
  clear m1 hb1 e0 hbb c0 c1 hw10
  have R := right_any2 (n := n) hc
  cases hr : eitherB n l1 m l2 with
  | false =>
    have q2 : eitherB m l2 n l1 = false := by
      unfold eitherB at hr ⊢
      rw [← hr]
      rw [show (m == n) = (n == m) from BEq.comm]
      cases rightB n l1 <;> cases rightB m l2 <;> rfl
    have q0 : eitherN n l1 m l2 = 0 := by unfold eitherN; rw [hr]; rfl
    have q1 : eitherE n l1 m l2 = 20 := by unfold eitherE; rw [hr]; rfl
    have q3 : eitherE m l2 n l1 = 20 := by unfold eitherE; rw [q2]; rfl
    have q4 : eitherE n l1 n l1 = bif rightB n l1 then 0 else 20 := by unfold eitherE eitherB; simp
    have c0 := cells_cell (i := 0) b1' (v := .int .i64 n) rfl
    have c1 := cells_cell (i := 1) b1' (v := .slice a' l1.length ca') rfl
    rw [q1, q3, q4]
    clear q0 q1 q2 q3 q4 hr b1' b2' bx bY bz hx hy hz hd hGl
    cases hr1 : rightB n l1 with
    | false =>
      rw [hr1] at R
      rw [cond_false]
      clear hr1
      go_wp2_with fail
      refine R.mono ?_
      rintro r w13 ⟨rfl, hb1⟩
      replace hb6 := bl hb6 hb1
      clear hb1 R c0 c1
      go_wp2
      go_ret
      exact ⟨rfl, hb6⟩
    | true =>
      rw [hr1] at R
      rw [cond_true]
      clear hr1
      go_wp2_with fail
      refine R.mono ?_
      rintro r w13 ⟨rfl, hb1⟩
      replace hb6 := bl hb6 hb1
      clear hb1 R c0 c1
      go_wp2
      go_ret
      exact ⟨rfl, hb6⟩
  | true =>
    have hq := hr
    unfold eitherB at hq
    rw [Bool.and_eq_true, Bool.and_eq_true] at hq
    obtain ⟨hr1, hr2, hnm⟩ := hq
    obtain rfl : n = m := by simpa using hnm
    obtain ⟨N, rfl, hN2, hlN, -⟩ := rightB_iff hr1
    have hll := right_len hr1 hr2
    have qb2 : eitherB (N : Int) l2 (N : Int) l1 = true := by unfold eitherB; rw [hr1, hr2]; simp
    have qb3 : eitherB (N : Int) l1 (N : Int) l1 = true := by unfold eitherB; rw [hr1]; simp
    have q1 : eitherN (N : Int) l1 (N : Int) l2 = (N : Int) ∧ eitherE (N : Int) l1 (N : Int) l2 = 0 ∧ eitherL (N : Int) l1 (N : Int) l2 = orW l1 l2 := by unfold eitherN eitherE eitherL; rw [hr]; exact ⟨rfl, rfl, rfl⟩
    have q2 : eitherN (N : Int) l2 (N : Int) l1 = (N : Int) ∧ eitherE (N : Int) l2 (N : Int) l1 = 0 ∧ eitherL (N : Int) l2 (N : Int) l1 = orW l1 l2 := by unfold eitherN eitherE eitherL; rw [qb2]; exact ⟨rfl, rfl, (orW_comm hll).symm⟩
    have q3 : eitherN (N : Int) l1 (N : Int) l1 = (N : Int) ∧ eitherE (N : Int) l1 (N : Int) l1 = 0 ∧ eitherL (N : Int) l1 (N : Int) l1 = l1 := by unfold eitherN eitherE eitherL; rw [qb3]; exact ⟨rfl, rfl, orW_self l1⟩
    simp only [q1.1, q1.2.1, q1.2.2, q2.1, q2.2.1, q2.2.2, q3.1, q3.2.1, q3.2.2] at bx bY bz hx hy hz hw12 ⊢
    have hh := has_orW hr1 hr2 i
    have HS1 := Lib.hid (show ∀ W, Below w12.heap.size w12 W → Calls Tryd.prog 26 #[.agg #[.int .i64 (N : Int), .slice x (orW l1 l2).length cx], .agg #[.int .i64 (N : Int), .slice y (orW l1 l2).length cy]] W fun r w' => r = .returned (.bool true) ∧ Below W.heap.size W w' from fun W h => by
      have := same_any2 (n := (N : Int)) (m := (N : Int)) (hx.below h) (hy.below h)
      rwa [show sameB (N : Int) (orW l1 l2) (N : Int) (orW l1 l2) = true by unfold sameB; simp] at this)
    have HS2 := Lib.hid (show ∀ W, Below w12.heap.size w12 W → Calls Tryd.prog 26 #[.agg #[.int .i64 (N : Int), .slice z l1.length cz], .agg #[.int .i64 (N : Int), .slice a' l1.length ca']] W fun r w' => r = .returned (.bool true) ∧ Below W.heap.size W w' from fun W h => by
      have := same_any2 (n := (N : Int)) (m := (N : Int)) (hz.below h) (hc.below h)
      rwa [show sameB (N : Int) l1 (N : Int) l1 = true by unfold sameB; simp] at this)
    have HH1 := Lib.hid (show ∀ W, Below w12.heap.size w12 W → Calls Tryd.prog 15 #[.agg #[.int .i64 (N : Int), .slice x (orW l1 l2).length cx], .int .i64 i] W fun r w' => r = .returned (.bool (hasB (N : Int) (orW l1 l2) i)) ∧ Below W.heap.size W w' from fun W h => has_any (hx.below h) i)
    have HH2 := Lib.hid (show ∀ W, Below w12.heap.size w12 W → Calls Tryd.prog 15 #[.agg #[.int .i64 (N : Int), .slice a' l1.length ca'], .int .i64 i] W fun r w' => r = .returned (.bool (hasB (N : Int) l1 i)) ∧ Below W.heap.size W w' from fun W h => has_any (hc.below h) i)
    have HH3 := Lib.hid (show ∀ W, Below w12.heap.size w12 W → Calls Tryd.prog 15 #[.agg #[.int .i64 (N : Int), .slice b' l2.length cb'], .int .i64 i] W fun r w' => r = .returned (.bool (hasB (N : Int) l2 i)) ∧ Below W.heap.size W w' from fun W h => has_any (hd.below h) i)
    rw [hh] at HH1
    clear q1 q2 q3 qb2 qb3 hr hr1 hr2 hnm hh hx hy hz hc hd R hGl
    generalize (orW l1 l2).length = u1 at *
    generalize hasB (N : Int) l1 i = t1 at *
    generalize hasB (N : Int) l2 i = t2 at *
    have c0 := cells_cell (i := 0) b1' (v := .int .i64 (N : Int)) rfl
    have c1 := cells_cell (i := 1) b1' (v := .slice a' l1.length ca') rfl
    have o0 := cells_cell (i := 0) b2' (v := .int .i64 (N : Int)) rfl
    have o1 := cells_cell (i := 1) b2' (v := .slice b' l2.length cb') rfl
    have x0 := cells_cell (i := 0) bx (v := .int .i64 (N : Int)) rfl
    have x1 := cells_cell (i := 1) bx (v := .slice x u1 cx) rfl
    have y0 := cells_cell (i := 0) bY (v := .int .i64 (N : Int)) rfl
    have y1 := cells_cell (i := 1) bY (v := .slice y u1 cy) rfl
    have z0 := cells_cell (i := 0) bz (v := .int .i64 (N : Int)) rfl
    have z1 := cells_cell (i := 1) bz (v := .slice z l1.length cz) rfl
    have HC : Below w12.heap.size w12 w12 := Below.refl _ _
    have HX := Lib.hid (show ∀ W, Below w12.heap.size w12 W → Below w12.heap.size w12 W ∧ W.cell? ⟨w.heap.size, 0, none⟩ = some (.int .i64 (N : Int)) ∧ W.cell? ⟨w.heap.size, 1, none⟩ = some (.slice a' l1.length ca') ∧ W.cell? ⟨w.heap.size + 1, 0, none⟩ = some (.int .i64 (N : Int)) ∧ W.cell? ⟨w.heap.size + 1, 1, none⟩ = some (.slice b' l2.length cb') ∧ W.cell? ⟨w7.heap.size, 0, none⟩ = some (.int .i64 (N : Int)) ∧ W.cell? ⟨w7.heap.size, 1, none⟩ = some (.slice x u1 cx) ∧ W.cell? ⟨w9.heap.size, 0, none⟩ = some (.int .i64 (N : Int)) ∧ W.cell? ⟨w9.heap.size, 1, none⟩ = some (.slice y u1 cy) ∧ W.cell? ⟨w11.heap.size, 0, none⟩ = some (.int .i64 (N : Int)) ∧ W.cell? ⟨w11.heap.size, 1, none⟩ = some (.slice z l1.length cz) from
      fun W h => ⟨h, (h.cell (p := ⟨w.heap.size, 0, none⟩) (cell_lt c0)).trans c0, (h.cell (p := ⟨w.heap.size, 1, none⟩) (cell_lt c1)).trans c1, (h.cell (p := ⟨w.heap.size + 1, 0, none⟩) (cell_lt o0)).trans o0, (h.cell (p := ⟨w.heap.size + 1, 1, none⟩) (cell_lt o1)).trans o1, (h.cell (p := ⟨w7.heap.size, 0, none⟩) (cell_lt x0)).trans x0, (h.cell (p := ⟨w7.heap.size, 1, none⟩) (cell_lt x1)).trans x1, (h.cell (p := ⟨w9.heap.size, 0, none⟩) (cell_lt y0)).trans y0, (h.cell (p := ⟨w9.heap.size, 1, none⟩) (cell_lt y1)).trans y1, (h.cell (p := ⟨w11.heap.size, 0, none⟩) (cell_lt z0)).trans z0, (h.cell (p := ⟨w11.heap.size, 1, none⟩) (cell_lt z1)).trans z1⟩)
    clear b1' b2' bx bY bz hll hlN hN2 HG
    go_wp2_with fail
    clear hw12
    cases t1 with
    | false =>
      have g1 : ((false || t2) == t2) = true := by simp
      first
        | go_region_held3 (fun W' => Below w12.heap.size w12 W' ∧ W'.cell? ⟨w.heap.size, 0, none⟩ = some (.int .i64 (N : Int)) ∧ W'.cell? ⟨w.heap.size, 1, none⟩ = some (.slice a' l1.length ca') ∧ W'.cell? ⟨w.heap.size + 1, 0, none⟩ = some (.int .i64 (N : Int)) ∧ W'.cell? ⟨w.heap.size + 1, 1, none⟩ = some (.slice b' l2.length cb') ∧ W'.cell? ⟨w7.heap.size, 0, none⟩ = some (.int .i64 (N : Int)) ∧ W'.cell? ⟨w7.heap.size, 1, none⟩ = some (.slice x u1 cx) ∧ W'.cell? ⟨w9.heap.size, 0, none⟩ = some (.int .i64 (N : Int)) ∧ W'.cell? ⟨w9.heap.size, 1, none⟩ = some (.slice y u1 cy) ∧ W'.cell? ⟨w11.heap.size, 0, none⟩ = some (.int .i64 (N : Int)) ∧ W'.cell? ⟨w11.heap.size, 1, none⟩ = some (.slice z l1.length cz))
           ((refine HX.out _ ?_; first | exact HC | exact HC.drew))
           (first
            | (go_at_call_of 26 (Value.agg #[.int .i64 (N : Int), .slice x u1 cx]); refine (HS1.out _ ?_).mono ?_; (first | exact HC | exact HC.drew); rintro r w' ⟨rfl, hb1⟩; have HC := (show Below w12.heap.size w12 w' from by first | exact bl HC hb1 | exact bl HC.drew hb1); obtain ⟨-, c0, c1, o0, o1, x0, x1, y0, y1, z0, z1⟩ := HX.out _ HC)
            | (go_at_call_of 26 (Value.agg #[.int .i64 (N : Int), .slice z l1.length cz]); refine (HS2.out _ ?_).mono ?_; (first | exact HC | exact HC.drew); rintro r w' ⟨rfl, hb1⟩; have HC := (show Below w12.heap.size w12 w' from by first | exact bl HC hb1 | exact bl HC.drew hb1); obtain ⟨-, c0, c1, o0, o1, x0, x1, y0, y1, z0, z1⟩ := HX.out _ HC)
            | (go_at_call_of 15 (Value.agg #[.int .i64 (N : Int), .slice x u1 cx]); refine (HH1.out _ ?_).mono ?_; (first | exact HC | exact HC.drew); rintro r w' ⟨rfl, hb1⟩; have HC := (show Below w12.heap.size w12 w' from by first | exact bl HC hb1 | exact bl HC.drew hb1); obtain ⟨-, c0, c1, o0, o1, x0, x1, y0, y1, z0, z1⟩ := HX.out _ HC)
            | (go_at_call_of 15 (Value.agg #[.int .i64 (N : Int), .slice a' l1.length ca']); refine (HH2.out _ ?_).mono ?_; (first | exact HC | exact HC.drew); rintro r w' ⟨rfl, hb1⟩; have HC := (show Below w12.heap.size w12 w' from by first | exact bl HC hb1 | exact bl HC.drew hb1); obtain ⟨-, c0, c1, o0, o1, x0, x1, y0, y1, z0, z1⟩ := HX.out _ HC)
            | (go_at_call_of 15 (Value.agg #[.int .i64 (N : Int), .slice b' l2.length cb']); refine (HH3.out _ ?_).mono ?_; (first | exact HC | exact HC.drew); rintro r w' ⟨rfl, hb1⟩; have HC := (show Below w12.heap.size w12 w' from by first | exact bl HC hb1 | exact bl HC.drew hb1); obtain ⟨-, c0, c1, o0, o1, x0, x1, y0, y1, z0, z1⟩ := HX.out _ HC))
        | fail "held"
      all_goals
        go_wp2
        go_ret
        exact ⟨rfl, by first | exact bl hb6 HC | exact bl hb6 HC.drew⟩
    | true =>
      have g1 : (true == true) = true := rfl
      refine wp_region_held_drew (S := (fun W' => Below w12.heap.size w12 W' ∧ W'.cell? ⟨w.heap.size, 0, none⟩ = some (.int .i64 (N : Int)) ∧ W'.cell? ⟨w.heap.size, 1, none⟩ = some (.slice a' l1.length ca') ∧ W'.cell? ⟨w.heap.size + 1, 0, none⟩ = some (.int .i64 (N : Int)) ∧ W'.cell? ⟨w.heap.size + 1, 1, none⟩ = some (.slice b' l2.length cb') ∧ W'.cell? ⟨w7.heap.size, 0, none⟩ = some (.int .i64 (N : Int)) ∧ W'.cell? ⟨w7.heap.size, 1, none⟩ = some (.slice x u1 cx) ∧ W'.cell? ⟨w9.heap.size, 0, none⟩ = some (.int .i64 (N : Int)) ∧ W'.cell? ⟨w9.heap.size, 1, none⟩ = some (.slice y u1 cy) ∧ W'.cell? ⟨w11.heap.size, 0, none⟩ = some (.int .i64 (N : Int)) ∧ W'.cell? ⟨w11.heap.size, 1, none⟩ = some (.slice z l1.length cz))) (by kernel_rfl) (HX.out _ HC.drew) (fun hHeld => ?_)
      refine wpAnyH_take (i := 0) (oi := ?o0) (v := ?v0) ?hi0 (by kernel_rfl) (by kernel_rfl) (by kernel_rfl) ?hq0 (Or.inl ⟨?hw0, ?hy0⟩) (by assumption) ?_
      case hi0 => simp only [List.getElem?_toArray, List.getElem?_cons_zero]; rfl
      case hq0 => exact fun _ _ _ h => h
      case hw0 => rfl
      case hy0 => (intro w hSw; (try dsimp only at hSw); go_simp; try with_reducible rfl)
      try simp only [Act.put, List.setIfInBounds_toArray, List.set_cons_zero, List.set_cons_succ]
      refine wpAnyH_take (i := 1) (oi := ?o1) (v := ?v1) ?hi1 (by kernel_rfl) (by kernel_rfl) (by kernel_rfl) ?hq1 (Or.inl ⟨?hw1, ?hy1⟩) (by assumption) ?_
      case hi1 => simp only [List.getElem?_toArray, List.getElem?_cons_succ, List.getElem?_cons_zero]; rfl
      case hq1 => exact fun _ _ _ h => h
      case hw1 => rfl
      case hy1 => (intro w hSw; (try dsimp only at hSw); go_simp; try with_reducible rfl)
      try simp only [Act.put, List.setIfInBounds_toArray, List.set_cons_zero, List.set_cons_succ]
      refine wpAnyH_take (i := 2) (oi := ?o2) (v := ?v2) ?hi2 (by kernel_rfl) (by kernel_rfl) (by kernel_rfl) ?hq2 (Or.inl ⟨?hw2, ?hy2⟩) (by assumption) ?_
      case hi2 => simp only [List.getElem?_toArray, List.getElem?_cons_succ, List.getElem?_cons_zero]; rfl
      case hq2 => exact fun _ _ _ h => h
      case hw2 => rfl
      case hy2 => (intro w hSw; (try dsimp only at hSw); go_simp; try with_reducible rfl)
      try simp only [Act.put, List.setIfInBounds_toArray, List.set_cons_zero, List.set_cons_succ]
      refine wpAnyH_take (i := 3) (oi := ?o3) (v := ?v3) ?hi3 (by kernel_rfl) (by kernel_rfl) (by kernel_rfl) ?hq3 (Or.inl ⟨?hw3, ?hy3⟩) (by assumption) ?_
      case hi3 => simp only [List.getElem?_toArray, List.getElem?_cons_succ, List.getElem?_cons_zero]; rfl
      case hq3 => exact fun _ _ _ h => h
      case hw3 => rfl
      case hy3 => (intro w hSw; (try dsimp only at hSw); go_simp; try with_reducible rfl)
      try simp only [Act.put, List.setIfInBounds_toArray, List.set_cons_zero, List.set_cons_succ]
      refine wpAnyH_take (i := 4) (oi := ?o4) (v := ?v4) ?hi4 (by kernel_rfl) (by kernel_rfl) (by kernel_rfl) ?hq4 (Or.inl ⟨?hw4, ?hy4⟩) (by assumption) ?_
      case hi4 => simp only [List.getElem?_toArray, List.getElem?_cons_succ, List.getElem?_cons_zero]; rfl
      case hq4 => exact fun _ _ _ h => h
      case hw4 => rfl
      case hy4 => (intro w hSw; (try dsimp only at hSw); go_simp; try with_reducible rfl)
      try simp only [Act.put, List.setIfInBounds_toArray, List.set_cons_zero, List.set_cons_succ]
      refine wpAnyH_take (i := 5) (oi := ?o5) (v := ?v5) ?hi5 (by kernel_rfl) (by kernel_rfl) (by kernel_rfl) ?hq5 (Or.inl ⟨?hw5, ?hy5⟩) (by assumption) ?_
      case hi5 => simp only [List.getElem?_toArray, List.getElem?_cons_succ, List.getElem?_cons_zero]; rfl
      case hq5 => exact fun _ _ _ h => h
      case hw5 => rfl
      case hy5 => (intro w hSw; (try dsimp only at hSw); go_simp; try with_reducible rfl)
      try simp only [Act.put, List.setIfInBounds_toArray, List.set_cons_zero, List.set_cons_succ]
      refine wpAnyH_take (i := 6) (oi := ?o6) (v := ?v6) ?hi6 (by kernel_rfl) (by kernel_rfl) (by kernel_rfl) ?hq6 (Or.inl ⟨?hw6, ?hy6⟩) (by assumption) ?_
      case hi6 => simp only [List.getElem?_toArray, List.getElem?_cons_succ, List.getElem?_cons_zero]; rfl
      case hq6 => exact fun _ _ _ h => h
      case hw6 => rfl
      case hy6 => (intro w hSw; (try dsimp only at hSw); go_simp; try with_reducible rfl)
      try simp only [Act.put, List.setIfInBounds_toArray, List.set_cons_zero, List.set_cons_succ]
      refine wpAnyH_take (i := 7) (oi := ?o7) (v := ?v7) ?hi7 (by kernel_rfl) (by kernel_rfl) (by kernel_rfl) ?hq7 (Or.inl ⟨?hw7, ?hy7⟩) (by assumption) ?_
      case hi7 => simp only [List.getElem?_toArray, List.getElem?_cons_succ, List.getElem?_cons_zero]; rfl
      case hq7 => exact fun _ _ _ h => h
      case hw7 => rfl
      case hy7 => (intro w hSw; (try dsimp only at hSw); go_simp; try with_reducible rfl)
      try simp only [Act.put, List.setIfInBounds_toArray, List.set_cons_zero, List.set_cons_succ]
      refine wpAnyH_take (i := 8) (oi := ?o8) (v := ?v8) ?hi8 (by kernel_rfl) (by kernel_rfl) (by kernel_rfl) ?hq8 (Or.inl ⟨?hw8, ?hy8⟩) (by assumption) ?_
      case hi8 => simp only [List.getElem?_toArray, List.getElem?_cons_succ, List.getElem?_cons_zero]; rfl
      case hq8 => exact fun _ _ _ h => h
      case hw8 => rfl
      case hy8 => (intro w hSw; (try dsimp only at hSw); go_simp; try with_reducible rfl)
      try simp only [Act.put, List.setIfInBounds_toArray, List.set_cons_zero, List.set_cons_succ]
      refine wpAnyH_take (i := 9) (oi := ?o9) (v := ?v9) ?hi9 (by kernel_rfl) (by kernel_rfl) (by kernel_rfl) ?hq9 (Or.inl ⟨?hw9, ?hy9⟩) (by assumption) ?_
      case hi9 => simp only [List.getElem?_toArray, List.getElem?_cons_succ, List.getElem?_cons_zero]; rfl
      case hq9 => exact fun _ _ _ h => h
      case hw9 => rfl
      case hy9 => (intro w hSw; (try dsimp only at hSw); go_simp; try with_reducible rfl)
      try simp only [Act.put, List.setIfInBounds_toArray, List.set_cons_zero, List.set_cons_succ]
      refine wpAnyH_take (i := 10) (oi := ?o10) (v := ?v10) ?hi10 (by kernel_rfl) (by kernel_rfl) (by kernel_rfl) ?hq10 (Or.inl ⟨?hw10, ?hy10⟩) (by assumption) ?_
      case hi10 => simp only [List.getElem?_toArray, List.getElem?_cons_succ, List.getElem?_cons_zero]; rfl
      case hq10 => exact fun _ _ _ h => h
      case hw10 => rfl
      case hy10 => (intro w hSw; (try dsimp only at hSw); go_simp; try with_reducible rfl)
      try simp only [Act.put, List.setIfInBounds_toArray, List.set_cons_zero, List.set_cons_succ]
      refine wpAnyH_take (i := 11) (oi := ?o11) (v := ?v11) ?hi11 (by kernel_rfl) (by kernel_rfl) (by kernel_rfl) ?hq11 (Or.inl ⟨?hw11, ?hy11⟩) (by assumption) ?_
      case hi11 => simp only [List.getElem?_toArray, List.getElem?_cons_succ, List.getElem?_cons_zero]; rfl
      case hq11 => exact fun _ _ _ h => h
      case hw11 => rfl
      case hy11 => (intro w hSw; (try dsimp only at hSw); go_simp; try with_reducible rfl)
      try simp only [Act.put, List.setIfInBounds_toArray, List.set_cons_zero, List.set_cons_succ]
      refine wpAnyH_ready (rs := [12]) (by kernel_rfl) (by simp) (AllReadyH.cons (o := ?o12) ?hi12 (fun K hK => ?step12) AllReadyH.nil)
      case hi12 => simp only [List.getElem?_toArray, List.getElem?_cons_succ, List.getElem?_cons_zero]; rfl
      case step12 =>
        go_simp
        (go_at_call_of 26 (Value.agg #[.int .i64 (N : Int), .slice x u1 cx]); refine (HS1.out _ ?_).mono ?_; (first | exact HC | exact HC.drew); rintro r w' ⟨rfl, hb1⟩; have HC := (show Below w12.heap.size w12 w' from by first | exact bl HC hb1 | exact bl HC.drew hb1); obtain ⟨-, c0, c1, o0, o1, x0, x1, y0, y1, z0, z1⟩ := HX.out _ HC)
        refine hK.out _ _ (HX.out _ HC) (fun hHeld => ?_)
        clear hK K
        try simp only [Act.put, List.setIfInBounds_toArray, List.set_cons_zero, List.set_cons_succ]
        refine wpAnyH_take (i := 13) (oi := ?o13) (v := ?v13) ?hi13 (by kernel_rfl) (by kernel_rfl) (by kernel_rfl) ?hq13 (Or.inl ⟨?hw13, ?hy13⟩) (by assumption) ?_
        case hi13 => simp only [List.getElem?_toArray, List.getElem?_cons_succ, List.getElem?_cons_zero]; rfl
        case hq13 => exact fun _ _ _ h => h
        case hw13 => rfl
        case hy13 => (intro w hSw; (try dsimp only at hSw); go_simp; try with_reducible rfl)
        try simp only [Act.put, List.setIfInBounds_toArray, List.set_cons_zero, List.set_cons_succ]
        refine wpAnyH_take (i := 14) (oi := ?o14) (v := ?v14) ?hi14 (by kernel_rfl) (by kernel_rfl) (by kernel_rfl) ?hq14 (Or.inl ⟨?hw14, ?hy14⟩) (by assumption) ?_
        case hi14 => simp only [List.getElem?_toArray, List.getElem?_cons_succ, List.getElem?_cons_zero]; rfl
        case hq14 => exact fun _ _ _ h => h
        case hw14 => rfl
        case hy14 => (intro w hSw; (try dsimp only at hSw); go_simp; try with_reducible rfl)
        try simp only [Act.put, List.setIfInBounds_toArray, List.set_cons_zero, List.set_cons_succ]
        refine wpAnyH_take (i := 15) (oi := ?o15) (v := ?v15) ?hi15 (by kernel_rfl) (by kernel_rfl) (by kernel_rfl) ?hq15 (Or.inl ⟨?hw15, ?hy15⟩) (by assumption) ?_
        case hi15 => simp only [List.getElem?_toArray, List.getElem?_cons_succ, List.getElem?_cons_zero]; rfl
        case hq15 => exact fun _ _ _ h => h
        case hw15 => rfl
        case hy15 => (intro w hSw; (try dsimp only at hSw); go_simp; try with_reducible rfl)
        try simp only [Act.put, List.setIfInBounds_toArray, List.set_cons_zero, List.set_cons_succ]
        refine wpAnyH_take (i := 16) (oi := ?o16) (v := ?v16) ?hi16 (by kernel_rfl) (by kernel_rfl) (by kernel_rfl) ?hq16 (Or.inl ⟨?hw16, ?hy16⟩) (by assumption) ?_
        case hi16 => simp only [List.getElem?_toArray, List.getElem?_cons_succ, List.getElem?_cons_zero]; rfl
        case hq16 => exact fun _ _ _ h => h
        case hw16 => rfl
        case hy16 => (intro w hSw; (try dsimp only at hSw); go_simp; try with_reducible rfl)
        try simp only [Act.put, List.setIfInBounds_toArray, List.set_cons_zero, List.set_cons_succ]
        refine wpAnyH_ready (rs := [17]) (by kernel_rfl) (by simp) (AllReadyH.cons (o := ?o17) ?hi17 (fun K hK => ?step17) AllReadyH.nil)
        case hi17 => simp only [List.getElem?_toArray, List.getElem?_cons_succ, List.getElem?_cons_zero]; rfl
        case step17 =>
          go_simp
          (go_at_call_of 26 (Value.agg #[.int .i64 (N : Int), .slice z l1.length cz]); refine (HS2.out _ ?_).mono ?_; (first | exact HC | exact HC.drew); rintro r w' ⟨rfl, hb1⟩; have HC := (show Below w12.heap.size w12 w' from by first | exact bl HC hb1 | exact bl HC.drew hb1); obtain ⟨-, c0, c1, o0, o1, x0, x1, y0, y1, z0, z1⟩ := HX.out _ HC)
          refine hK.out _ _ (HX.out _ HC) (fun hHeld => ?_)
          clear hK K
          try simp only [Act.put, List.setIfInBounds_toArray, List.set_cons_zero, List.set_cons_succ]
          refine wpAnyH_take (i := 18) (oi := ?o18) (v := ?v18) ?hi18 (by kernel_rfl) (by kernel_rfl) (by kernel_rfl) ?hq18 (Or.inl ⟨?hw18, ?hy18⟩) (by assumption) ?_
          case hi18 => simp only [List.getElem?_toArray, List.getElem?_cons_succ, List.getElem?_cons_zero]; rfl
          case hq18 => exact fun _ _ _ h => h
          case hw18 => rfl
          case hy18 => (intro w hSw; (try dsimp only at hSw); go_simp; try with_reducible rfl)
          try simp only [Act.put, List.setIfInBounds_toArray, List.set_cons_zero, List.set_cons_succ]
          refine wpAnyH_take (i := 19) (oi := ?o19) (v := ?v19) ?hi19 (by kernel_rfl) (by kernel_rfl) (by kernel_rfl) ?hq19 (Or.inl ⟨?hw19, ?hy19⟩) (by assumption) ?_
          case hi19 => simp only [List.getElem?_toArray, List.getElem?_cons_succ, List.getElem?_cons_zero]; rfl
          case hq19 => exact fun _ _ _ h => h
          case hw19 => rfl
          case hy19 => (intro w hSw; (try dsimp only at hSw); go_simp; try with_reducible rfl)
          try simp only [Act.put, List.setIfInBounds_toArray, List.set_cons_zero, List.set_cons_succ]
          refine wpAnyH_take (i := 20) (oi := ?o20) (v := ?v20) ?hi20 (by kernel_rfl) (by kernel_rfl) (by kernel_rfl) ?hq20 (Or.inl ⟨?hw20, ?hy20⟩) (by assumption) ?_
          case hi20 => simp only [List.getElem?_toArray, List.getElem?_cons_succ, List.getElem?_cons_zero]; rfl
          case hq20 => exact fun _ _ _ h => h
          case hw20 => rfl
          case hy20 => (intro w hSw; (try dsimp only at hSw); go_simp; try with_reducible rfl)
          try simp only [Act.put, List.setIfInBounds_toArray, List.set_cons_zero, List.set_cons_succ]
          refine wpAnyH_take (i := 21) (oi := ?o21) (v := ?v21) ?hi21 (by kernel_rfl) (by kernel_rfl) (by kernel_rfl) ?hq21 (Or.inl ⟨?hw21, ?hy21⟩) (by assumption) ?_
          case hi21 => simp only [List.getElem?_toArray, List.getElem?_cons_succ, List.getElem?_cons_zero]; rfl
          case hq21 => exact fun _ _ _ h => h
          case hw21 => rfl
          case hy21 => (intro w hSw; (try dsimp only at hSw); go_simp; try with_reducible rfl)
          try simp only [Act.put, List.setIfInBounds_toArray, List.set_cons_zero, List.set_cons_succ]
          refine wpAnyH_take (i := 23) (oi := ?o23) (v := ?v23) ?hi23 (by kernel_rfl) (by kernel_rfl) (by kernel_rfl) ?hq23 (Or.inl ⟨?hw23, ?hy23⟩) (by assumption) ?_
          case hi23 => simp only [List.getElem?_toArray, List.getElem?_cons_succ, List.getElem?_cons_zero]; rfl
          case hq23 => exact fun _ _ _ h => h
          case hw23 => rfl
          case hy23 => (intro w hSw; (try dsimp only at hSw); go_simp; try with_reducible rfl)
          try simp only [Act.put, List.setIfInBounds_toArray, List.set_cons_zero, List.set_cons_succ]
          refine wpAnyH_take (i := 24) (oi := ?o24) (v := ?v24) ?hi24 (by kernel_rfl) (by kernel_rfl) (by kernel_rfl) ?hq24 (Or.inl ⟨?hw24, ?hy24⟩) (by assumption) ?_
          case hi24 => simp only [List.getElem?_toArray, List.getElem?_cons_succ, List.getElem?_cons_zero]; rfl
          case hq24 => exact fun _ _ _ h => h
          case hw24 => rfl
          case hy24 => (intro w hSw; (try dsimp only at hSw); go_simp; try with_reducible rfl)
          try simp only [Act.put, List.setIfInBounds_toArray, List.set_cons_zero, List.set_cons_succ]
          refine wpAnyH_ready (rs := [22]) (by kernel_rfl) (by simp) (AllReadyH.cons (o := ?o22) ?hi22 (fun K hK => ?step22) AllReadyH.nil)
          case hi22 => simp only [List.getElem?_toArray, List.getElem?_cons_succ, List.getElem?_cons_zero]; rfl
          case step22 =>
            go_simp
            (go_at_call_of 15 (Value.agg #[.int .i64 (N : Int), .slice x u1 cx]); refine (HH1.out _ ?_).mono ?_; (first | exact HC | exact HC.drew); rintro r w' ⟨rfl, hb1⟩; have HC := (show Below w12.heap.size w12 w' from by first | exact bl HC hb1 | exact bl HC.drew hb1); obtain ⟨-, c0, c1, o0, o1, x0, x1, y0, y1, z0, z1⟩ := HX.out _ HC)
            refine hK.out _ _ (HX.out _ HC) (fun hHeld => ?_)
            clear hK K
            try simp only [Act.put, List.setIfInBounds_toArray, List.set_cons_zero, List.set_cons_succ]
            refine wpAnyH_ready (rs := [25]) (by kernel_rfl) (by simp) (AllReadyH.cons (o := ?o25) ?hi25 (fun K hK => ?step25) AllReadyH.nil)
            case hi25 => simp only [List.getElem?_toArray, List.getElem?_cons_succ, List.getElem?_cons_zero]; rfl
            case step25 =>
              go_simp
              (go_at_call_of 15 (Value.agg #[.int .i64 (N : Int), .slice a' l1.length ca']); refine (HH2.out _ ?_).mono ?_; (first | exact HC | exact HC.drew); rintro r w' ⟨rfl, hb1⟩; have HC := (show Below w12.heap.size w12 w' from by first | exact bl HC hb1 | exact bl HC.drew hb1); obtain ⟨-, c0, c1, o0, o1, x0, x1, y0, y1, z0, z1⟩ := HX.out _ HC)
              refine hK.out _ _ (HX.out _ HC) (fun hHeld => ?_)
              clear hK K
              try simp only [Act.put, List.setIfInBounds_toArray, List.set_cons_zero, List.set_cons_succ]
              refine wpAnyH_take (i := 26) (oi := ?o26) (v := ?v26) ?hi26 (by kernel_rfl) (by kernel_rfl) (by kernel_rfl) ?hq26 (Or.inl ⟨?hw26, ?hy26⟩) (by assumption) ?_
              case hi26 => simp only [List.getElem?_toArray, List.getElem?_cons_succ, List.getElem?_cons_zero]; rfl
              case hq26 => exact fun _ _ _ h => h
              case hw26 => rfl
              case hy26 => (intro w hSw; (try dsimp only at hSw); go_simp; try with_reducible rfl)
              try simp only [Act.put, List.setIfInBounds_toArray, List.set_cons_zero, List.set_cons_succ]
              refine wpAnyH_take (i := 27) (oi := ?o27) (v := undef) ?hi27 (by kernel_rfl) (by kernel_rfl) (by kernel_rfl) ?hq27 (Or.inr ⟨?hw27, rfl⟩) (by assumption) ?_
              case hi27 => simp only [List.getElem?_toArray, List.getElem?_cons_succ, List.getElem?_cons_zero]; rfl
              case hq27 => exact fun _ _ _ h => h
              case hw27 => rfl
              try simp only [Act.put, List.setIfInBounds_toArray, List.set_cons_zero, List.set_cons_succ]
              refine wpAnyH_take (i := 28) (oi := ?o28) (v := undef) ?hi28 (by kernel_rfl) (by kernel_rfl) (by kernel_rfl) ?hq28 (Or.inr ⟨?hw28, rfl⟩) (by assumption) ?_
              case hi28 => simp only [List.getElem?_toArray, List.getElem?_cons_succ, List.getElem?_cons_zero]; rfl
              case hq28 => exact fun _ _ _ h => h
              case hw28 => rfl
              try simp only [Act.put, List.setIfInBounds_toArray, List.set_cons_zero, List.set_cons_succ]
              refine wpAnyH_take (i := 29) (oi := ?o29) (v := undef) ?hi29 (by kernel_rfl) (by kernel_rfl) (by kernel_rfl) ?hq29 (Or.inr ⟨?hw29, rfl⟩) (by assumption) ?_
              case hi29 => simp only [List.getElem?_toArray, List.getElem?_cons_succ, List.getElem?_cons_zero]; rfl
              case hq29 => exact fun _ _ _ h => h
              case hw29 => rfl
              try simp only [Act.put, List.setIfInBounds_toArray, List.set_cons_zero, List.set_cons_succ]
              refine wpAnyH_take (i := 30) (oi := ?o30) (v := ?v30) ?hi30 (by kernel_rfl) (by kernel_rfl) (by kernel_rfl) ?hq30 (Or.inl ⟨?hw30, ?hy30⟩) (by assumption) ?_
              case hi30 => simp only [List.getElem?_toArray, List.getElem?_cons_succ, List.getElem?_cons_zero]; rfl
              case hq30 => exact fun _ _ _ h => h
              case hw30 => rfl
              case hy30 => (intro w hSw; (try dsimp only at hSw); go_simp; try with_reducible rfl)
              try simp only [Act.put, List.setIfInBounds_toArray, List.set_cons_zero, List.set_cons_succ]
              refine wpAnyH_take (i := 31) (oi := ?o31) (v := ?v31) ?hi31 (by kernel_rfl) (by kernel_rfl) (by kernel_rfl) ?hq31 (Or.inl ⟨?hw31, ?hy31⟩) (by assumption) ?_
              case hi31 => simp only [List.getElem?_toArray, List.getElem?_cons_succ, List.getElem?_cons_zero]; rfl
              case hq31 => exact fun _ _ _ h => h
              case hw31 => rfl
              case hy31 => (intro w hSw; (try dsimp only at hSw); go_simp; try with_reducible rfl)
              try simp only [Act.put, List.setIfInBounds_toArray, List.set_cons_zero, List.set_cons_succ]
              refine wpAnyH_take (i := 32) (oi := ?o32) (v := ?v32) ?hi32 (by kernel_rfl) (by kernel_rfl) (by kernel_rfl) ?hq32 (Or.inl ⟨?hw32, ?hy32⟩) (by assumption) ?_
              case hi32 => simp only [List.getElem?_toArray, List.getElem?_cons_succ, List.getElem?_cons_zero]; rfl
              case hq32 => exact fun _ _ _ h => h
              case hw32 => rfl
              case hy32 => (intro w hSw; (try dsimp only at hSw); go_simp; try with_reducible rfl)
              try simp only [Act.put, List.setIfInBounds_toArray, List.set_cons_zero, List.set_cons_succ]
              refine wpAnyH_take (i := 33) (oi := ?o33) (v := ?v33) ?hi33 (by kernel_rfl) (by kernel_rfl) (by kernel_rfl) ?hq33 (Or.inl ⟨?hw33, ?hy33⟩) (by assumption) ?_
              case hi33 => simp only [List.getElem?_toArray, List.getElem?_cons_succ, List.getElem?_cons_zero]; rfl
              case hq33 => exact fun _ _ _ h => h
              case hw33 => rfl
              case hy33 => (intro w hSw; (try dsimp only at hSw); go_simp; try with_reducible rfl)
              try simp only [Act.put, List.setIfInBounds_toArray, List.set_cons_zero, List.set_cons_succ]
              refine wpAnyH_done (by kernel_rfl) ?_ 0
              go_wp2
              go_ret
              exact ⟨rfl, by first | exact bl hb6 HC | exact bl hb6 HC.drew⟩
end Go.Proofs.YtlncilcoohmlkaaDoor

namespace Go.Proofs.YtlncilcoohmlkaaDoor.lawBitsEither
open Go.ChangeShapes Go.WideShapes Go.ChangeAt Go.RowKit
set_option maxRecDepth 100000 in
theorem told (H : Type) (enc : TypeId × Value → H) (W : World) (base : Nat) (args : Array Value) (ds gs : List (DataW H)) (before : List MemPlace)
    (hval : ∀ (j : Nat) t v, Tryd.f10.params[j]? = some t → args[j]? = some v → Value.okWide Tryd.prog W .any base t v)
    (hW : DataW.Whole enc Tryd.prog Tryd.f10.params.toList Rows.bitsEitherSpec.vars false W args.toList ds gs before) (hL : laidMetH Tryd.prog laidL W) :
    Calls Tryd.prog 10 args W fun e W' => ∃ v, e = .returned v ∧ Rows.bitsEitherSpec.post enc Tryd.prog Tryd.f10 false true false false W args v W' := by
  have hW' := hW
  obtain ⟨p, q, hA0, hV, rfl, hfz, hnd⟩ := hW
  have hA : DataW.TrodAll enc Tryd.prog W 0 (fun _ => true) true Tryd.f10.params.toList args.toList ds p := hA0
  rw [Tryd.params10] at hA hval
  obtain ⟨v0, vs0, d0, ds0, p0, q0, hargs, rfl, rfl, h0, r0⟩ := trodAll_cons hA
  obtain ⟨v1, vs1, d1, ds1, p1, q1, rfl, rfl, rfl, h1, r1⟩ := trodAll_cons r0
  obtain ⟨v2, vs2, d2, ds2, p2, q2, rfl, rfl, rfl, h2, r2⟩ := trodAll_cons r1
  obtain ⟨rfl, rfl, rfl⟩ := trodAll_nil r2
  obtain rfl : args = #[v0, v1, v2] := by cases args; simp_all
  obtain ⟨rfl, rfl⟩ := trodVars_none hV
  have k0 := h0
  have k1 := h1
  have k2 := h2
  obtain ⟨n0, u0, l0, rfl, i0⟩ := bits_open (hval 0 24 v0 rfl rfl) h0
  obtain ⟨n1, u1, l1, rfl, i1⟩ := bits_open (hval 1 24 v1 rfl rfl) h1
  obtain ⟨x2, rfl, rfl, rfl, wx2⟩ := open_int Tryd.underlying3 (hval 2 3 v2 rfl rfl) h2
  clear hA0
  simp only [List.append_nil] at hW'
  obtain ⟨E, hGl⟩ := glob_of_laid hL
  refine (either_law hGl i0 i1 x2).mono fun e W' ⟨he, hb⟩ => ?_
  subst he
  have hlt := hW'.lt
  have harg0 := Below.trod laidOut (by kernel_rfl) (of_decide_eq_true (by kernel_rfl)) k0 hb (fun y hy => by first | (cases hy; done) | (simpa using hlt y (by simp [hy])))
  have harg1 := Below.trod laidOut (by kernel_rfl) (of_decide_eq_true (by kernel_rfl)) k1 hb (fun y hy => by first | (cases hy; done) | (simpa using hlt y (by simp [hy])))
  have harg2 := Below.trod laidOut (by kernel_rfl) (of_decide_eq_true (by kernel_rfl)) k2 hb (fun y hy => by first | (cases hy; done) | (simpa using hlt y (by simp [hy])))
  exact ⟨_, rfl, _, _, _, [], _, [], hW', trodAll_cons_mk (shut_bool Tryd.underlying4 _) trodAll_mk0, (trodAll_cons_mk harg0 (trodAll_cons_mk harg1 (trodAll_cons_mk harg2 trodAll_mk0))), rfl, hb.frame _, fun h => by cases h⟩

set_option maxRecDepth 100000 in
theorem lifted (os : Os) (started : os.Started) (H : Type) (enc : TypeId × Value → H) :
    ReturnsInHanded {} Tryd.checked os 10 .any (fun w args => (Rows.bitsEitherSpec.pre enc Tryd.prog Tryd.f10 [] false w args ∧ laidMetH Tryd.prog laidL w) ∧ sizedMet enc Tryd.prog Tryd.f10 (OpenSpec.ofChange Rows.bitsEitherSpec) false w args)
      (Rows.bitsEitherSpec.post enc Tryd.prog Tryd.f10 false true false false) := by
  refine returnsInHanded_of_change_and (C := Tryd.checked) (X := fun w _ => laidMetH Tryd.prog laidL w) (fun _ _ _ hh h => h.of_heap hh) own started (by kernel_rfl) Tryd.func10
    (ChangeSpec.witness_shaped (enc := enc) (C := Tryd.checked) (os := os) (X := fun w _ => laidMetH Tryd.prog laidL w) false (World.doorLaid Tryd.prog 66 os) #[.agg #[.int .i64 0, .slice none 0 0], .agg #[.int .i64 0, .slice none 0 0], .int .i64 0] 8 rfl (World.shaped_of_RefB (by kernel_rfl) (by kernel_rfl)) (by kernel_rfl) (by kernel_rfl) (by kernel_rfl) (door_met os _)) ?_
  intro W base args ds gs before hval hW _ _ hL _
  exact told H enc W base args ds gs before hval hW hL

theorem said : Rows.BitsEitherSaid :=
  OpenClaim.holds_of_wide 10 Tryd.f10 rfl rfl rfl rfl rfl rfl rfl ⟨rfl, rfl, rfl, rfl, rfl⟩ rfl rfl rfl rfl rfl (by kernel_rfl) Tryd.func10 (by kernel_rfl)
    (of_decide_eq_true (by kernel_rfl)) (by unfold Func.isWrapper; first | (rw [if_pos (by decide +kernel)]; kernel_rfl) | (rw [if_neg (by decide +kernel)]; exact ⟨rfl, rfl⟩))
    (fun os started H enc _ => lifted os started H enc)

theorem plain (f : FuncId) (fn : Func) (hf : Tryd.pinned.checked.prog.funcNamed "selion/selionlaw02.BitsEither" = some f) (hfn : Tryd.pinned.checked.prog.funcs[f]? = some fn) :
    true = Tryd.pinned.checked.prog.looks [] ∧ ∀ (j : Nat) t, fn.params[j]? = some t → Tryd.pinned.checked.prog.wantsStandIn t = false := by
  obtain rfl : f = 10 := Option.some.inj ((show Tryd.prog.funcNamed "selion/selionlaw02.BitsEither" = some 10 by kernel_rfl).symm.trans hf) |>.symm
  obtain rfl : fn = Tryd.f10 := (Option.some.inj (Tryd.func10.symm.trans hfn)).symm
  refine ⟨by kernel_rfl, fun j t ht => ?_⟩
  have hm : t ∈ Tryd.f10.params := Array.mem_of_getElem? ht
  rw [Tryd.params10] at hm
  have hm' : t = 24 ∨ t = 3 := by simpa using hm
  rcases hm' with rfl | rfl
  · exact (show Tryd.prog.wantsStandIn 24 = false by kernel_rfl)
  · exact (show Tryd.prog.wantsStandIn 3 = false by kernel_rfl)

/-- THE CARD. -/
theorem card : Rows.BitsEitherCardSaid :=
  Claim7.holds_tied_plain_at .later [] _ _ _ _ said (fun _ h => by cases h) (by kernel_rfl) (fun _ h => by cases h) bitsEither_row_tie rfl ⟨rfl, rfl⟩ (by kernel_rfl) rfl plain (by kernel_rfl)
end Go.Proofs.YtlncilcoohmlkaaDoor.lawBitsEither

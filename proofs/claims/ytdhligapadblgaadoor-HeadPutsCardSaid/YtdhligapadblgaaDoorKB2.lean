/- Layer head: Get from an arena (printed by wip/mkkb2.py). -/
import Derived.Test.YtdhligapadblgaaDoorKB1
namespace Go.Proofs.YtdhligapadblgaaDoor
open Go.RowKit
attribute [local go_sem ↓] Go.wp_at_zero Go.wp_at_succ

def zeroM : Obj := .cells #[.int .i64 0, .int .i64 0, .int .i64 0, .int .i64 0] 23
theorem told_2 {E : EnvH} {w : World} (h : GlobH E w) : Calls Tryd.prog 30 #[.slice (some ⟨w.heap.size, 0, none⟩) 2 2] (w.alloc (.cells #[.nilIface, .nilIface] 57)) fun r w' => r = .returned (.int .i64 0) ∧ w.alloc (.cells #[.nilIface, .nilIface] 57) = w' :=
  told_twoH h .ok .ok 2 57
theorem told_2a {E : EnvH} {w : World} (h : GlobH E w) : Calls Tryd.prog 30 #[.slice (some ⟨w.heap.size, 0, none⟩) 2 2] (w.alloc (.cells #[.nilIface, .iface 107 (.pointer (some E.aAdr))] 57)) fun r w' => r = .returned (.int .i64 10) ∧ w.alloc (.cells #[.nilIface, .iface 107 (.pointer (some E.aAdr))] 57) = w' :=
  told_twoH h .ok .adr 2 57
/-- A cell's block of zeros, as a walk asks for it. -/
structure ZeroAt (W : World) (b : Nat) : Prop where
  c0 : W.cell? ⟨b, 0, none⟩ = some (.int .i64 0)
  c1 : W.cell? ⟨b, 1, none⟩ = some (.int .i64 0)
  c2 : W.cell? ⟨b, 2, none⟩ = some (.int .i64 0)
  c3 : W.cell? ⟨b, 3, none⟩ = some (.int .i64 0)
  f0 : W.frozen? ⟨b, 0, none⟩ = false
  f1 : W.frozen? ⟨b, 1, none⟩ = false
  f2 : W.frozen? ⟨b, 2, none⟩ = false
  f3 : W.frozen? ⟨b, 3, none⟩ = false
theorem ZeroAt.mk' {W : World} {b : Nat} (h : W.heap[b]? = some (.cells #[.int .i64 0, .int .i64 0, .int .i64 0, .int .i64 0] 23 (0, 0))) : ZeroAt W b :=
  ⟨cells_cell h rfl, cells_cell h rfl, cells_cell h rfl, cells_cell h rfl, cells_free h, cells_free h, cells_free h, cells_free h⟩

set_option maxHeartbeats 4000000 in
set_option maxRecDepth 20000 in
theorem get_off {E : EnvH} {EN : EnvN} {w : World} {p g n : Nat} {f : Nat → Nat} (hG : GlobH E w) (hN : GlobN EN w) (hA : ArenaV w p g n f) {a : Int} (ha : mul8 a = false) :
    Calls Tryd.prog 21 #[.pointer (some ⟨p, 0, none⟩), .int .i64 a] w fun r w' => r = .returned (.tuple #[.agg #[.int .i64 0, .int .i64 0, .int .i64 0, .int .i64 0], .int .i64 10]) ∧ Below w.heap.size w w' := by
  obtain ⟨w1, hw1, a0, a1, b0, b1⟩ := allocs2 w (.cells #[.int .i64 0, .int .i64 0, .int .i64 0, .int .i64 0] 23) (.cells #[.int .i64 0, .int .i64 0, .int .i64 0, .int .i64 0] 23)
  have hG1 := hG.below a0
  have T := there_some p w1
  have HN := Lib.hid hN
  have HA := Lib.hid hA
  have HG := Lib.hid hG1
  have HW1 := Lib.hid hw1
  have HB0 := Lib.hid b0
  have HB1 := Lib.hid b1
  have HA0 := Lib.hid a0
  clear hG hN hA hw1 a1 b0 b1
  have T2 := at_no ha hG1
  have O := told_2a hG1
  clear hG1 a0
  go_enter Tryd.func21, Tryd.ntmps21
  go_wp2_with fail
  rw [HW1.out]
  refine T.mono ?_
  rintro r w' ⟨rfl, rfl⟩
  go_wp2_with fail
  refine T2.mono ?_
  rintro r w' ⟨rfl, rfl⟩
  go_wp2_with fail
  refine O.mono ?_
  rintro r w' ⟨rfl, rfl⟩
  have hb2 : Below w1.heap.size w1 (w1.alloc (.cells #[.nilIface, .iface 107 (.pointer (some E.aAdr))] 57)) := (Below.refl _ _).alloc (Nat.le_refl _) _
  generalize w1.alloc (.cells #[.nilIface, .iface 107 (.pointer (some E.aAdr))] 57) = w2 at *
  have HB2 := Lib.hid (blH HA0.out hb2)
  have k0 := (hb2.block _ (block_lt HB0.out)).trans HB0.out
  have k1 := (hb2.block _ (block_lt HB1.out)).trans HB1.out
  obtain ⟨c0, c1, c2, c3, f0, f1, f2, f3⟩ := ZeroAt.mk' k0
  obtain ⟨d0, d1, d2, d3, -, -, -, -⟩ := ZeroAt.mk' k1
  obtain ⟨w5, hw5, hB5, e5⟩ := mark_stored (a' := .int .i64 0) (b' := .int .i64 0) (c' := .int .i64 0) (d' := .int .i64 0) HB2.out (Nat.le_refl _) k0
  have E5 := Lib.hid e5
  have HB5 := Lib.hid hB5
  clear T T2 O HW1 HB0 HB1 k0 k1 hb2 e5 hB5
  go_wp2
  exact bodyPost_ret (results_mark_tmp rfl _ _ w.heap.size _ _ _ _ rfl E5.out) rfl ⟨rfl, HB5.out⟩

set_option maxHeartbeats 4000000 in
set_option maxRecDepth 20000 in
theorem get_out {E : EnvH} {EN : EnvN} {w : World} {p g n : Nat} {f : Nat → Nat} (hG : GlobH E w) (hN : GlobN EN w) (hA : ArenaV w p g n f) {a : Int} (ha : mul8 a = true) (hin : inB n a 8 = false) :
    Calls Tryd.prog 21 #[.pointer (some ⟨p, 0, none⟩), .int .i64 a] w fun r w' => r = .returned (.tuple #[.agg #[.int .i64 0, .int .i64 0, .int .i64 0, .int .i64 0], .int .i64 10]) ∧ Below w.heap.size w w' := by
  obtain ⟨w1, hw1, a0, a1, b0, b1⟩ := allocs2 w (.cells #[.int .i64 0, .int .i64 0, .int .i64 0, .int .i64 0] 23) (.cells #[.int .i64 0, .int .i64 0, .int .i64 0, .int .i64 0] 23)
  have hG1 := hG.below a0
  have T := there_some p w1
  have HN := Lib.hid hN
  have HA := Lib.hid hA
  have HG := Lib.hid hG1
  have HW1 := Lib.hid hw1
  have HB0 := Lib.hid b0
  have HB1 := Lib.hid b1
  have HA0 := Lib.hid a0
  clear hG hN hA hw1 a1 b0 b1
  have T2 := at_yes ha w1
  have O := told_2 hG1
  clear hG1 a0
  go_enter Tryd.func21, Tryd.ntmps21
  go_wp2_with fail
  rw [HW1.out]
  refine T.mono ?_
  rintro r w' ⟨rfl, rfl⟩
  go_wp2_with fail
  refine T2.mono ?_
  rintro r w' ⟨rfl, rfl⟩
  go_wp2_with fail
  refine O.mono ?_
  rintro r w' ⟨rfl, rfl⟩
  have hb2 : Below w1.heap.size w1 (w1.alloc (.cells #[.nilIface, .nilIface] 57)) := (Below.refl _ _).alloc (Nat.le_refl _) _
  generalize w1.alloc (.cells #[.nilIface, .nilIface] 57) = w2 at *
  have HB2 := Lib.hid (blH HA0.out hb2)
  have k0 := (hb2.block _ (block_lt HB0.out)).trans HB0.out
  have k1 := (hb2.block _ (block_lt HB1.out)).trans HB1.out
  obtain ⟨c0, c1, c2, c3, f0, f1, f2, f3⟩ := ZeroAt.mk' k0
  obtain ⟨d0, d1, d2, d3, -, -, -, -⟩ := ZeroAt.mk' k1
  have R := read_N (HN.out.below HB2.out) (HA.out.next HB2.out) a 8
  rw [show (chkN n a 8).code = 10 by unfold chkN; rw [hin]; rfl] at R
  obtain ⟨w5, hw5, hB5, e5⟩ := mark_stored (a' := .int .i64 0) (b' := .int .i64 0) (c' := .int .i64 0) (d' := .int .i64 0) HB2.out (Nat.le_refl _) k0
  have E5 := Lib.hid e5
  have HB5 := Lib.hid hB5
  clear T T2 O HW1 HB0 HB1 k0 k1 hb2 e5 hB5
  go_wp2_with fail
  refine R.mono ?_
  rintro r w' ⟨rfl, rfl⟩
  clear R
  go_wp2
  exact bodyPost_ret (results_mark_tmp rfl _ _ w.heap.size _ _ _ _ rfl E5.out) rfl ⟨rfl, HB5.out⟩

set_option maxHeartbeats 4000000 in
set_option maxRecDepth 20000 in
theorem get_good {E : EnvH} {EN : EnvN} {w : World} {p g n : Nat} {f : Nat → Nat} (hG : GlobH E w) (hN : GlobN EN w) (hA : ArenaV w p g n f) {a : Int} (ha : mul8 a = true) (hin : inB n a 8 = true) (hd : decB (readN n f a 8) = true) :
    Calls Tryd.prog 21 #[.pointer (some ⟨p, 0, none⟩), .int .i64 a] w fun r w' => r = .returned (.tuple #[.agg #[.int .i64 (decK (readN n f a 8)), .int .i64 (decL (readN n f a 8)), .int .i64 (decC (readN n f a 8)), .int .i64 (decT (readN n f a 8))], .int .i64 0]) ∧ Below w.heap.size w w' := by
  obtain ⟨w1, hw1, a0, a1, b0, b1⟩ := allocs2 w (.cells #[.int .i64 0, .int .i64 0, .int .i64 0, .int .i64 0] 23) (.cells #[.int .i64 0, .int .i64 0, .int .i64 0, .int .i64 0] 23)
  have hG1 := hG.below a0
  have T := there_some p w1
  have HN := Lib.hid hN
  have HA := Lib.hid hA
  have HG := Lib.hid hG1
  have HW1 := Lib.hid hw1
  have HB0 := Lib.hid b0
  have HB1 := Lib.hid b1
  have HA0 := Lib.hid a0
  clear hG hN hA hw1 a1 b0 b1
  have T2 := at_yes ha w1
  have O := told_2 hG1
  clear hG1 a0
  go_enter Tryd.func21, Tryd.ntmps21
  go_wp2_with fail
  rw [HW1.out]
  refine T.mono ?_
  rintro r w' ⟨rfl, rfl⟩
  go_wp2_with fail
  refine T2.mono ?_
  rintro r w' ⟨rfl, rfl⟩
  go_wp2_with fail
  refine O.mono ?_
  rintro r w' ⟨rfl, rfl⟩
  have hb2 : Below w1.heap.size w1 (w1.alloc (.cells #[.nilIface, .nilIface] 57)) := (Below.refl _ _).alloc (Nat.le_refl _) _
  generalize w1.alloc (.cells #[.nilIface, .nilIface] 57) = w2 at *
  have HB2 := Lib.hid (blH HA0.out hb2)
  have k0 := (hb2.block _ (block_lt HB0.out)).trans HB0.out
  have k1 := (hb2.block _ (block_lt HB1.out)).trans HB1.out
  obtain ⟨c0, c1, c2, c3, f0, f1, f2, f3⟩ := ZeroAt.mk' k0
  obtain ⟨d0, d1, d2, d3, -, -, -, -⟩ := ZeroAt.mk' k1
  have R := read_N (HN.out.below HB2.out) (HA.out.next HB2.out) a 8
  rw [show (chkN n a 8).code = 0 by unfold chkN; rw [hin]; rfl] at R
  have D := decode_any (HG.out.below hb2) (readN n f a 8)
  unfold decE decX at D
  rw [hd, cond_true, cond_true, cond_true, cond_true, cond_true] at D
  have hk : ¬ decK (readN n f a 8) = 0 := by
    unfold decB at hd
    rw [Bool.and_eq_true, Bool.and_eq_true] at hd
    have := rightM_iff hd.2.1
    omega
  have gk : (decK (readN n f a 8) == 0) = false := beq_eq_false_iff_ne.2 hk
  generalize hq0 : decK (readN n f a 8) = q0 at *
  generalize hq1 : decL (readN n f a 8) = q1 at *
  generalize hq2 : decC (readN n f a 8) = q2 at *
  generalize hq3 : decT (readN n f a 8) = q3 at *
  have K0 := Lib.hid k0
  have K1 := Lib.hid k1
  have HQ := Lib.hid (And.intro hq0 (And.intro hq1 (And.intro hq2 hq3)))
  clear T T2 O HW1 HB0 HB1 k0 k1 hb2 hd c0 c1 c2 c3 d0 d1 d2 d3 f0 f1 f2 f3 hq0 hq1 hq2 hq3
  go_wp2_with fail
  refine R.mono ?_
  rintro r w' ⟨rfl, rfl⟩
  go_wp2_with fail
  refine D.mono ?_
  rintro r w3 ⟨rfl, hb3⟩
  obtain ⟨w4, hw4, e0, -, e1⟩ := allocs1 w3 (.cells #[.int .i64 q0, .int .i64 q1, .int .i64 q2, .int .i64 q3] 23)
  have hb4 := blH (blH HB2.out hb3) e0
  have k0 := (e0.block _ (by have := (hb3.block _ (block_lt K0.out)).trans K0.out; exact block_lt this)).trans ((hb3.block _ (block_lt K0.out)).trans K0.out)
  have k1 := (e0.block _ (by have := (hb3.block _ (block_lt K1.out)).trans K1.out; exact block_lt this)).trans ((hb3.block _ (block_lt K1.out)).trans K1.out)
  obtain ⟨c0, c1, c2, c3, f0, f1, f2, f3⟩ := ZeroAt.mk' k0
  obtain ⟨d0, d1, d2, d3, -, -, -, -⟩ := ZeroAt.mk' k1
  have x0 := cells_cell (i := 0) e1 (v := .int .i64 q0) rfl
  have x1 := cells_cell (i := 1) e1 (v := .int .i64 q1) rfl
  have x2 := cells_cell (i := 2) e1 (v := .int .i64 q2) rfl
  have x3 := cells_cell (i := 3) e1 (v := .int .i64 q3) rfl
  obtain ⟨w5, hw5, hB5, e5⟩ := mark_stored (a' := .int .i64 q0) (b' := .int .i64 q1) (c' := .int .i64 q2) (d' := .int .i64 q3) hb4 (Nat.le_refl _) k0
  have E5 := Lib.hid e5
  have HB5 := Lib.hid hB5
  clear R D hb3 e0 e1 hb4 k0 k1 e5 hB5
  go_wp2
  exact bodyPost_ret (results_mark_tmp rfl _ _ w.heap.size _ _ _ _ rfl E5.out) rfl ⟨by rw [HQ.out.1, HQ.out.2.1, HQ.out.2.2.1, HQ.out.2.2.2]; rfl, HB5.out⟩

set_option maxHeartbeats 4000000 in
set_option maxRecDepth 20000 in
theorem get_bad {E : EnvH} {EN : EnvN} {w : World} {p g n : Nat} {f : Nat → Nat} (hG : GlobH E w) (hN : GlobN EN w) (hA : ArenaV w p g n f) {a : Int} (ha : mul8 a = true) (hin : inB n a 8 = true) (hd : decB (readN n f a 8) = false) :
    Calls Tryd.prog 21 #[.pointer (some ⟨p, 0, none⟩), .int .i64 a] w fun r w' => r = .returned (.tuple #[.agg #[.int .i64 0, .int .i64 0, .int .i64 0, .int .i64 0], .int .i64 60]) ∧ Below w.heap.size w w' := by
  obtain ⟨w1, hw1, a0, a1, b0, b1⟩ := allocs2 w (.cells #[.int .i64 0, .int .i64 0, .int .i64 0, .int .i64 0] 23) (.cells #[.int .i64 0, .int .i64 0, .int .i64 0, .int .i64 0] 23)
  have hG1 := hG.below a0
  have T := there_some p w1
  have HN := Lib.hid hN
  have HA := Lib.hid hA
  have HG := Lib.hid hG1
  have HW1 := Lib.hid hw1
  have HB0 := Lib.hid b0
  have HB1 := Lib.hid b1
  have HA0 := Lib.hid a0
  clear hG hN hA hw1 a1 b0 b1
  have T2 := at_yes ha w1
  have O := told_2 hG1
  clear hG1 a0
  go_enter Tryd.func21, Tryd.ntmps21
  go_wp2_with fail
  rw [HW1.out]
  refine T.mono ?_
  rintro r w' ⟨rfl, rfl⟩
  go_wp2_with fail
  refine T2.mono ?_
  rintro r w' ⟨rfl, rfl⟩
  go_wp2_with fail
  refine O.mono ?_
  rintro r w' ⟨rfl, rfl⟩
  have hb2 : Below w1.heap.size w1 (w1.alloc (.cells #[.nilIface, .nilIface] 57)) := (Below.refl _ _).alloc (Nat.le_refl _) _
  generalize w1.alloc (.cells #[.nilIface, .nilIface] 57) = w2 at *
  have HB2 := Lib.hid (blH HA0.out hb2)
  have k0 := (hb2.block _ (block_lt HB0.out)).trans HB0.out
  have k1 := (hb2.block _ (block_lt HB1.out)).trans HB1.out
  obtain ⟨c0, c1, c2, c3, f0, f1, f2, f3⟩ := ZeroAt.mk' k0
  obtain ⟨d0, d1, d2, d3, -, -, -, -⟩ := ZeroAt.mk' k1
  have R := read_N (HN.out.below HB2.out) (HA.out.next HB2.out) a 8
  rw [show (chkN n a 8).code = 0 by unfold chkN; rw [hin]; rfl] at R
  have D := decode_any (HG.out.below hb2) (readN n f a 8)
  unfold decE decX at D
  rw [hd, cond_false, cond_false, cond_false, cond_false, cond_false] at D
  have K0 := Lib.hid k0
  have K1 := Lib.hid k1
  have HG2 := Lib.hid (HG.out.below hb2)
  clear T T2 O HW1 HB0 HB1 k0 k1 hb2 hd c0 c1 c2 c3 d0 d1 d2 d3 f0 f1 f2 f3 HG
  go_wp2_with fail
  refine R.mono ?_
  rintro r w' ⟨rfl, rfl⟩
  go_wp2_with fail
  refine D.mono ?_
  rintro r w3 ⟨rfl, hb3⟩
  obtain ⟨w4, hw4, e0, -, e1⟩ := allocs1 w3 (.cells #[.int .i64 0, .int .i64 0, .int .i64 0, .int .i64 0] 23)
  have hb4 := blH (blH HB2.out hb3) e0
  have k0 := (e0.block _ (by have := (hb3.block _ (block_lt K0.out)).trans K0.out; exact block_lt this)).trans ((hb3.block _ (block_lt K0.out)).trans K0.out)
  have k1 := (e0.block _ (by have := (hb3.block _ (block_lt K1.out)).trans K1.out; exact block_lt this)).trans ((hb3.block _ (block_lt K1.out)).trans K1.out)
  have hG4 := (HG2.out.below hb3).below e0
  have z1 := ZeroAt.mk' e1
  have HW4 := Lib.hid hw4
  obtain ⟨c0, c1, c2, c3, f0, f1, f2, f3⟩ := ZeroAt.mk' k0
  obtain ⟨d0, d1, d2, d3, -, -, -, -⟩ := ZeroAt.mk' k1
  obtain ⟨x0, x1, x2, x3, -, -, -, -⟩ := z1
  have kH : w4.cell? ⟨0, 0, none⟩ = some (.iface 107 (.pointer (some E.aHead))) := hG4.cHead
  have HX := Lib.hid (show ∀ W, Below w4.heap.size w4 W → Below w4.heap.size w4 W ∧ ZeroAt W w.heap.size ∧ ZeroAt W (w.heap.size + 1) ∧ W.cell? ⟨0, 0, none⟩ = some (.iface 107 (.pointer (some E.aHead))) ∧ W.heap[w.heap.size]? = some (.cells #[.int .i64 0, .int .i64 0, .int .i64 0, .int .i64 0] 23 (0, 0)) from
    fun W h => ⟨h, ZeroAt.mk' ((h.block _ (block_lt k0)).trans k0), ZeroAt.mk' ((h.block _ (block_lt k1)).trans k1), (h.cell (p := ⟨0, 0, none⟩) (cell_lt kH)).trans kH, (h.block _ (block_lt k0)).trans k0⟩)
  have HGX := Lib.hid (show ∀ W, Below w4.heap.size w4 W → GlobH E W from fun W h => hG4.below h)
  have HB4 := Lib.hid hb4
  have HC : Below w4.heap.size w4 w4 := Below.refl _ _
  have q0 := (hb3.block _ (block_lt K0.out)).trans K0.out
  have q1 := (hb3.block _ (block_lt K1.out)).trans K1.out
  have hl0 := block_lt q0
  have hl1 := block_lt q1
  clear c0 c1 c2 c3 f0 f1 f2 f3 d0 d1 d2 d3
  obtain ⟨c0, c1, c2, c3, f0, f1, f2, f3⟩ := ZeroAt.mk' q0
  obtain ⟨d0, d1, d2, d3, -, -, -, -⟩ := ZeroAt.mk' q1
  clear R D hb3 e0 e1 hb4 k0 k1 hG4 hw4 q0 q1 x0 x1 x2 x3
  go_wp2_with fail
  rw [HW4.out]
  clear c0 c1 c2 c3 f0 f1 f2 f3 d0 d1 d2 d3 hl0 hl1 HW4
  obtain ⟨-, ⟨c0, c1, c2, c3, f0, f1, f2, f3⟩, ⟨d0, d1, d2, d3, -, -, -, -⟩, kH, kB⟩ := HX.out w4 HC
  have hl0 := cell_lt c0
  have hl1 := cell_lt d0
  have KB := Lib.hid kB
  clear kB HC
  go_region_with (go_at_call 30; refine (told_head (HGX.out _ (Below.refl _ _).drew)).mono ?_; rintro r w' ⟨rfl, rfl⟩)
  all_goals
    obtain ⟨w5, hw5, hB5, e5⟩ := mark_stored (a' := .int .i64 0) (b' := .int .i64 0) (c' := .int .i64 0) (d' := .int .i64 0) HB4.out (Nat.le_refl _) KB.out
    clear c0 c1 c2 c3 f0 f1 f2 f3 d0 d1 d2 d3 hl0 hl1
    have E5 : Hid (w5.heap[w.heap.size]? = _) := Lib.hid e5
    have HB5 := Lib.hid hB5
    clear e5 hB5
    rw [hw5]
    clear hw5
    go_wp2
    refine bodyPost_ret (results_mark_tmp rfl _ _ w.heap.size _ _ _ _ rfl ((Below.heap_alloc w5 _ _ (block_lt E5.out)).trans E5.out)) rfl ⟨rfl, ?_⟩
    exact (HB5.out.alloc HB5.out.size _).drew

/-- What Get answers. -/
def getB (n : Nat) (f : Nat → Nat) (a : Int) : Bool := mul8 a && (inB n a 8 && decB (readN n f a 8))
def getE (n : Nat) (f : Nat → Nat) (a : Int) : Int := bif mul8 a && inB n a 8 then (bif decB (readN n f a 8) then 0 else 60) else 10
theorem getH_any {E : EnvH} {EN : EnvN} {w : World} {p g n : Nat} {f : Nat → Nat} (hG : GlobH E w) (hN : GlobN EN w) (hA : ArenaV w p g n f) (a : Int) :
    Calls Tryd.prog 21 #[.pointer (some ⟨p, 0, none⟩), .int .i64 a] w fun r w' => r = .returned (.tuple #[.agg #[.int .i64 (decX (getB n f a) (decK (readN n f a 8))), .int .i64 (decX (getB n f a) (decL (readN n f a 8))), .int .i64 (decX (getB n f a) (decC (readN n f a 8))), .int .i64 (decX (getB n f a) (decT (readN n f a 8)))], .int .i64 (getE n f a)]) ∧ Below w.heap.size w w' := by
  unfold getE getB decX
  cases ha : mul8 a with
  | false => exact get_off hG hN hA ha
  | true =>
    cases hin : inB n a 8 with
    | false => exact get_out hG hN hA ha hin
    | true =>
      cases hd : decB (readN n f a 8) with
      | true => exact get_good hG hN hA ha hin hd
      | false => exact get_bad hG hN hA ha hin hd
end Go.Proofs.YtdhligapadblgaaDoor

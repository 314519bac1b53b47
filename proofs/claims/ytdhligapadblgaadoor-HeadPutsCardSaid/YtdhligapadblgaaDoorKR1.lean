/- Layer head: the document's Put and Get; Get at no arena. -/
import Derived.Test.YtdhligapadblgaaDoorKB3
import Derived.Test.YtdhligapadblgaaDoorNR1
import Derived.Test.YtdhligapadblgaaDoorK11
namespace Go.Proofs.YtdhligapadblgaaDoor
open Go.RowKit
attribute [local go_sem ↓] Go.wp_at_zero Go.wp_at_succ

theorem told_2n {E : EnvH} {w : World} (h : GlobH E w) : Calls Tryd.prog 30 #[.slice (some ⟨w.heap.size, 0, none⟩) 2 2] (w.alloc (.cells #[.iface 107 (.pointer (some E.aNil)), .nilIface] 57)) fun r w' => r = .returned (.int .i64 1) ∧ w.alloc (.cells #[.iface 107 (.pointer (some E.aNil)), .nilIface] 57) = w' :=
  told_twoH h .nil .ok 2 57
theorem told_2m {E : EnvH} {w : World} (h : GlobH E w) : Calls Tryd.prog 30 #[.slice (some ⟨w.heap.size, 0, none⟩) 2 2] (w.alloc (.cells #[.iface 107 (.pointer (some E.aNil)), .iface 107 (.pointer (some E.aAdr))] 57)) fun r w' => r = .returned (.int .i64 1) ∧ w.alloc (.cells #[.iface 107 (.pointer (some E.aNil)), .iface 107 (.pointer (some E.aAdr))] 57) = w' :=
  told_twoH h .nil .adr 2 57

set_option maxHeartbeats 2000000 in
set_option maxRecDepth 20000 in
theorem get_nil {E : EnvH} {w : World} (hG : GlobH E w) (a : Int) :
    Calls Tryd.prog 21 #[.pointer none, .int .i64 a] w fun r w' => r = .returned (.tuple #[.agg #[.int .i64 0, .int .i64 0, .int .i64 0, .int .i64 0], .int .i64 1]) ∧ Below w.heap.size w w' := by
  obtain ⟨w1, hw1, a0, a1, b0, b1⟩ := allocs2 w (.cells #[.int .i64 0, .int .i64 0, .int .i64 0, .int .i64 0] 23) (.cells #[.int .i64 0, .int .i64 0, .int .i64 0, .int .i64 0] 23)
  have hG1 := hG.below a0
  have T := there_nil hG1
  have HW1 := Lib.hid hw1
  have HB0 := Lib.hid b0
  have HB1 := Lib.hid b1
  have HA0 := Lib.hid a0
  clear hG hw1 a1 b0 b1
  cases ha : mul8 a with
  | true =>
    have T2 := at_yes ha w1
    have O := told_2n hG1
    clear hG1 a0
    go_enter Tryd.func21, Tryd.ntmps21
    go_wp2_with fail
    rw [HW1.out]
    refine T.mono ?_
    rintro r w' ⟨rfl, rfl⟩
    go_wp2_with fail
    refine T2.mono ?_
    rintro r w' ⟨rfl, rfl⟩
    go_wp2_with fail
    refine O.mono ?_
    rintro r w' ⟨rfl, rfl⟩
    have hb2 : Below w1.heap.size w1 (w1.alloc (.cells #[.iface 107 (.pointer (some E.aNil)), .nilIface] 57)) := (Below.refl _ _).alloc (Nat.le_refl _) _
    generalize w1.alloc (.cells #[.iface 107 (.pointer (some E.aNil)), .nilIface] 57) = w2 at *
    have HB2 := Lib.hid (blH HA0.out hb2)
    have k0 := (hb2.block _ (block_lt HB0.out)).trans HB0.out
    have k1 := (hb2.block _ (block_lt HB1.out)).trans HB1.out
    obtain ⟨c0, c1, c2, c3, f0, f1, f2, f3⟩ := ZeroAt.mk' k0
    obtain ⟨d0, d1, d2, d3, -, -, -, -⟩ := ZeroAt.mk' k1
    obtain ⟨w5, hw5, hB5, e5⟩ := mark_stored (a' := .int .i64 0) (b' := .int .i64 0) (c' := .int .i64 0) (d' := .int .i64 0) HB2.out (Nat.le_refl _) k0
    have E5 := Lib.hid e5
    have HB5 := Lib.hid hB5
    clear T T2 O HW1 HB0 HB1 k0 k1 hb2 e5 hB5
    go_wp2
    exact bodyPost_ret (results_mark_tmp rfl _ _ w.heap.size _ _ _ _ rfl E5.out) rfl ⟨rfl, HB5.out⟩
  | false =>
    have T2 := at_no ha hG1
    have O := told_2m hG1
    clear hG1 a0
    go_enter Tryd.func21, Tryd.ntmps21
    go_wp2_with fail
    rw [HW1.out]
    refine T.mono ?_
    rintro r w' ⟨rfl, rfl⟩
    go_wp2_with fail
    refine T2.mono ?_
    rintro r w' ⟨rfl, rfl⟩
    go_wp2_with fail
    refine O.mono ?_
    rintro r w' ⟨rfl, rfl⟩
    have hb2 : Below w1.heap.size w1 (w1.alloc (.cells #[.iface 107 (.pointer (some E.aNil)), .iface 107 (.pointer (some E.aAdr))] 57)) := (Below.refl _ _).alloc (Nat.le_refl _) _
    generalize w1.alloc (.cells #[.iface 107 (.pointer (some E.aNil)), .iface 107 (.pointer (some E.aAdr))] 57) = w2 at *
    have HB2 := Lib.hid (blH HA0.out hb2)
    have k0 := (hb2.block _ (block_lt HB0.out)).trans HB0.out
    have k1 := (hb2.block _ (block_lt HB1.out)).trans HB1.out
    obtain ⟨c0, c1, c2, c3, f0, f1, f2, f3⟩ := ZeroAt.mk' k0
    obtain ⟨d0, d1, d2, d3, -, -, -, -⟩ := ZeroAt.mk' k1
    obtain ⟨w5, hw5, hB5, e5⟩ := mark_stored (a' := .int .i64 0) (b' := .int .i64 0) (c' := .int .i64 0) (d' := .int .i64 0) HB2.out (Nat.le_refl _) k0
    have E5 := Lib.hid e5
    have HB5 := Lib.hid hB5
    clear T T2 O HW1 HB0 HB1 k0 k1 hb2 e5 hB5
    go_wp2
    exact bodyPost_ret (results_mark_tmp rfl _ _ w.heap.size _ _ _ _ rfl E5.out) rfl ⟨rfl, HB5.out⟩

set_option maxHeartbeats 2000000 in
set_option maxRecDepth 20000 in
theorem putRef {w : World} {p g n : Nat} {f : Nat → Nat} (hA : RefV w p g n f) (a k l c e : Int) :
    Calls Tryd.prog 26 #[.pointer (some ⟨p, 0, none⟩), .int .i64 a, .agg #[.int .i64 k, .int .i64 l, .int .i64 c, .int .i64 e]] w fun r w' => r = .returned (.int .i64 (putHE n a k l c e)) ∧ RefV w' p g n (putHF n f a k l c e) ∧ w.grownBy w' (some g) := by
  obtain ⟨w1, hw1, a0, -, b1⟩ := allocs1 w (.cells #[.int .i64 k, .int .i64 l, .int .i64 c, .int .i64 e] 23)
  have m1 := encodeRef_any (w := w1) k l c e
  have c0 := cells_cell (i := 0) b1 (v := .int .i64 k) rfl
  have c1 := cells_cell (i := 1) b1 (v := .int .i64 l) rfl
  have c2 := cells_cell (i := 2) b1 (v := .int .i64 c) rfl
  have c3 := cells_cell (i := 3) b1 (v := .int .i64 e) rfl
  have HA := Lib.hid hA
  have HA0 := Lib.hid a0
  unfold putHE putHF
  unfold encE at m1
  clear hA a0 b1
  cases hr : rightM k l c e with
  | false =>
    rw [hr, cond_false] at m1
    clear hr
    generalize encI k l c e = s at *
    go_enter Tryd.func26, Tryd.ntmps26
    go_wp2_with fail
    refine m1.mono ?_
    rintro r w2 ⟨rfl, hb⟩
    have HB := Lib.hid (blH HA0.out hb)
    clear m1 hb c0 c1 c2 c3 hw1
    go_wp2
    go_ret
    exact ⟨rfl, HA.out.next HB.out, grown_below HB.out _⟩
  | true =>
    rw [hr, cond_true] at m1
    have h8 : (encI k l c e).size = 8 := encI_size hr
    have H8 := Lib.hid h8
    clear hr h8
    generalize encI k l c e = s at *
    unfold mul8
    by_cases ha : a.tmod 8 = 0
    · rw [decide_eq_true ha]
      go_enter Tryd.func26, Tryd.ntmps26
      go_wp2_with fail
      refine m1.mono ?_
      rintro r w2 ⟨rfl, hb⟩
      have HB := Lib.hid (blH HA0.out hb)
      have W := writeR (HA.out.next HB.out) a s (by have := H8.out; omega)
      rw [H8.out] at W
      clear m1 hb c0 c1 c2 c3 hw1
      go_wp2_with fail
      refine W.mono ?_
      rintro r w3 ⟨rfl, hA3, hg3⟩
      have HA3 := Lib.hid hA3
      have HG3 := Lib.hid (grown_trans (grown_below HB.out (some g)) hg3)
      clear W hA3 hg3
      go_wp2
      go_ret
      exact ⟨rfl, HA3.out, HG3.out⟩
    · rw [decide_eq_false ha]
      go_enter Tryd.func26, Tryd.ntmps26
      go_wp2_with fail
      refine m1.mono ?_
      rintro r w2 ⟨rfl, hb⟩
      have HB := Lib.hid (blH HA0.out hb)
      clear m1 hb c0 c1 c2 c3 hw1
      go_wp2
      go_ret
      exact ⟨rfl, HA.out.next HB.out, grown_below HB.out _⟩

set_option maxHeartbeats 2000000 in
set_option maxRecDepth 20000 in
theorem getRef {w : World} {p g n : Nat} {f : Nat → Nat} (hA : RefV w p g n f) (a : Int) :
    Calls Tryd.prog 25 #[.pointer (some ⟨p, 0, none⟩), .int .i64 a] w fun r w' => r = .returned (.tuple #[.agg #[.int .i64 (decX (getB n f a) (decK (readN n f a 8))), .int .i64 (decX (getB n f a) (decL (readN n f a 8))), .int .i64 (decX (getB n f a) (decC (readN n f a 8))), .int .i64 (decX (getB n f a) (decT (readN n f a 8)))], .int .i64 (getE n f a)]) ∧ Below w.heap.size w w' := by
  obtain ⟨w1, hw1, a0, a1, b0⟩ := allocs1 w (.cells #[.int .i64 0, .int .i64 0, .int .i64 0, .int .i64 0] 23)
  have R := readR (hA.next a0) a 8
  rw [chk8_code] at R
  have HA0 := Lib.hid a0
  have HB0 := Lib.hid b0
  have D := fun w => decodeRef_any (w := w) (readN n f a 8)
  unfold getE getB
  unfold decE at D
  obtain ⟨c0, c1, c2, c3, f0, f1, f2, f3⟩ := ZeroAt.mk' b0
  clear hA a0 a1 b0
  cases hin : inB n a 8 with
  | false =>
    rw [hin, cond_false] at R
    rw [Bool.false_and, Bool.and_false, cond_false]
    unfold decX
    rw [cond_false, cond_false, cond_false, cond_false]
    clear hin D
    obtain ⟨w5, hw5, hB5, e5⟩ := mark_stored (a' := .int .i64 0) (b' := .int .i64 0) (c' := .int .i64 0) (d' := .int .i64 0) HA0.out (Nat.le_refl _) HB0.out
    have E5 := Lib.hid e5
    have HB5 := Lib.hid hB5
    clear e5 hB5
    generalize readN n f a 8 = s at *
    go_enter Tryd.func25, Tryd.ntmps25
    go_wp2_with fail
    refine R.mono ?_
    rintro r w' ⟨rfl, rfl⟩
    clear R
    go_wp2
    exact bodyPost_ret (results_mark_tmp rfl _ _ w.heap.size _ _ _ _ rfl E5.out) rfl ⟨rfl, HB5.out⟩
  | true =>
    rw [hin, cond_true] at R
    rw [Bool.true_and, Bool.and_true]
    clear hin
    unfold mul8
    by_cases ha : a.tmod 8 = 0
    · rw [decide_eq_true ha, Bool.true_and, cond_true]
      generalize readN n f a 8 = s at *
      have D1 := D w1
      clear D
      generalize (decX (decB s) (decK s)) = y0 at *
      generalize (decX (decB s) (decL s)) = y1 at *
      generalize (decX (decB s) (decC s)) = y2 at *
      generalize (decX (decB s) (decT s)) = y3 at *
      generalize (bif decB s then (0 : Int) else 60) = y4 at *
      clear c0 c1 c2 c3 f0 f1 f2 f3
      go_enter Tryd.func25, Tryd.ntmps25
      go_wp2_with fail
      refine R.mono ?_
      rintro r w' ⟨rfl, rfl⟩
      go_wp2_with fail
      refine D1.mono ?_
      rintro r w2 ⟨rfl, hb⟩
      have bb := (hb.block _ (block_lt HB0.out)).trans HB0.out
      obtain ⟨c0, c1, c2, c3, f0, f1, f2, f3⟩ := ZeroAt.mk' bb
      obtain ⟨w5, hw5, hB5, e5⟩ := mark_stored (a' := .int .i64 y0) (b' := .int .i64 y1) (c' := .int .i64 y2) (d' := .int .i64 y3) (blH HA0.out hb) (Nat.le_refl _) bb
      have E5 := Lib.hid e5
      have HB5 := Lib.hid hB5
      clear R D1 hb bb e5 hB5
      go_wp2
      exact bodyPost_ret (results_mark_tmp rfl _ _ w.heap.size _ _ _ _ rfl E5.out) rfl ⟨rfl, HB5.out⟩
    · rw [decide_eq_false ha, Bool.false_and, cond_false]
      obtain ⟨w5, hw5, hB5, e5⟩ := mark_stored (a' := .int .i64 0) (b' := .int .i64 0) (c' := .int .i64 0) (d' := .int .i64 0) HA0.out (Nat.le_refl _) HB0.out
      have E5 := Lib.hid e5
      have HB5 := Lib.hid hB5
      clear e5 hB5 D
      generalize readN n f a 8 = s at *
      go_enter Tryd.func25, Tryd.ntmps25
      go_wp2_with fail
      refine R.mono ?_
      rintro r w' ⟨rfl, rfl⟩
      clear R
      go_wp2
      exact bodyPost_ret (results_mark_tmp rfl _ _ w.heap.size _ _ _ _ rfl E5.out) rfl ⟨rfl, HB5.out⟩
end Go.Proofs.YtdhligapadblgaaDoor

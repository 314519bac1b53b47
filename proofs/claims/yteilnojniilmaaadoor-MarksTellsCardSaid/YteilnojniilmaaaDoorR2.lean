/- The document's answers for layer 7, walked: extents, marks, tables together. -/
import Derived.Test.YteilnojniilmaaaDoorR1
import Derived.Test.YteilnojniilmaaaDoorM8
namespace Go.Proofs.YteilnojniilmaaaDoor
open Go Go.RowKit
attribute [local go_sem ↓] Go.wp_at_zero Go.wp_at_succ
attribute [local go_sem ↓] run_max_int run_min_int

theorem right_iff' (l : List Int) (h : rightT l = true) : l.length = 32 := by unfold rightT at h; simp at h; exact h.1

theorem refMake_any (w : World) : Calls Tryd.prog 26 #[] w fun r w' => (∃ g, r = .returned (.slice (some ⟨g, 0, none⟩) 32 32) ∧ Arr w' g 32 3 32 (fun _ => 0) ∧ w.heap.size ≤ g) ∧ Below w.heap.size w w' := by
  have hm := run_make32
  go_enter Tryd.func26, Tryd.ntmps26
  go_wp2
  obtain ⟨W0, hW0, e0, e1, e2⟩ := allocs1 w (.cells zeros32 3)
  rw [hW0]
  clear hm hW0
  go_ret
  refine ⟨⟨_, rfl, Arr.made (n := 32) (cap := 32) (f := fun _ => 0) e2 rfl ?_ (by decide) (by decide), Nat.le_refl _⟩, e0⟩
  intro j hj
  simp [zeros32, hj]

set_option maxHeartbeats 400000 in
theorem refExt_any (a n : Int) (w : World) : Calls Tryd.prog 38 #[.int .i64 a, .int .i64 n] w fun r w' => r = .returned (.bool (extB a n)) ∧ Below w.heap.size w w' := by
  by_cases h1 : a < 0
  · have e : extB a n = false := by rw [Bool.eq_false_iff, Ne, extB_iff]; omega
    rw [e]; clear e
    have hd : decide (0 ≤ a) = false := decide_eq_false (by omega)
    go_enter Tryd.func38, Tryd.ntmps38
    go_wp2
    go_ret
    exact ⟨by first | rfl | (simp; done) | (simp; omega), Below.refl _ _⟩
  by_cases h2 : 4096 ≤ a
  · have e : extB a n = false := by rw [Bool.eq_false_iff, Ne, extB_iff]; omega
    rw [e]; clear e
    have hd : decide (a < 4096) = false := decide_eq_false (by omega)
    go_enter Tryd.func38, Tryd.ntmps38
    go_wp2
    go_ret
    exact ⟨by first | rfl | (simp; done) | (simp; omega), Below.refl _ _⟩
  obtain ⟨r, hr⟩ : ∃ r, Int.tmod a 8 = r := ⟨_, rfl⟩
  have hr2 : r = a % 8 := by rw [← hr, Int.tmod_eq_emod_of_nonneg (by omega)]
  by_cases h3 : ¬ r = 0
  · have e : extB a n = false := by rw [Bool.eq_false_iff, Ne, extB_iff]; omega
    rw [e]; clear e
    have hr8 : r = 1 ∨ r = 2 ∨ r = 3 ∨ r = 4 ∨ r = 5 ∨ r = 6 ∨ r = 7 := by omega
    clear h3 hr2
    rcases hr8 with rfl | rfl | rfl | rfl | rfl | rfl | rfl
    all_goals
      go_enter Tryd.func38, Tryd.ntmps38
      go_wp2
      go_ret
      exact ⟨by first | rfl | (simp; done) | (simp; omega), Below.refl _ _⟩
  obtain rfl : r = 0 := by omega
  clear h3
  by_cases h4 : n < 1
  · have e : extB a n = false := by rw [Bool.eq_false_iff, Ne, extB_iff]; omega
    rw [e]; clear e hr2
    go_enter Tryd.func38, Tryd.ntmps38
    go_wp2
    go_ret
    exact ⟨by first | rfl | (simp; done) | (simp; omega), Below.refl _ _⟩
  by_cases h5 : 2048 < n
  · have e : extB a n = false := by rw [Bool.eq_false_iff, Ne, extB_iff]; omega
    rw [e]; clear e hr2
    go_enter Tryd.func38, Tryd.ntmps38
    go_wp2
    go_ret
    exact ⟨by first | rfl | (simp; done) | (simp; omega), Below.refl _ _⟩
  · have e : extB a n = decide (a + n ≤ 4096) := by rw [Bool.eq_iff_iff, extB_iff, decide_eq_true_iff]; omega
    rw [e]; clear e hr2
    go_enter Tryd.func38, Tryd.ntmps38
    go_wp2
    go_ret
    exact ⟨by first | rfl | (simp; done) | (simp; omega), Below.refl _ _⟩

set_option maxHeartbeats 1000000 in
theorem refMerge_any {w : World} {v u : Value} {l m : List Int} (hv : IntsV w v l) (hu : IntsV w u m) :
    Calls Tryd.prog 21 #[v, u] w fun r w' => (∃ v', r = .returned (.tuple #[v', .int .i64 (mergeE l m)]) ∧ IntsV w' v' (mergeL l m)) ∧ Below w.heap.size w w' := by
  have R1 := refRight_any hv
  have HV := Lib.hid hv
  have HU := Lib.hid hu
  unfold mergeE mergeL
  cases hl : rightT l with
  | false =>
    rw [hl] at R1
    obtain ⟨p, cap, rfl⟩ := hv.slice
    obtain ⟨p', cap', rfl⟩ := hu.slice
    clear hv hu hl
    go_enter Tryd.func21, Tryd.ntmps21
    go_wp2_with fail
    refine R1.mono ?_
    rintro r w1 ⟨rfl, hb⟩
    go_wp2
    go_ret2
    exact ⟨⟨_, rfl, .empty none 0⟩, hb⟩
  | true =>
    rw [hl] at R1
    cases hm : rightT m with
    | false =>
      obtain ⟨p, cap, rfl⟩ := hv.slice
      obtain ⟨p', cap', rfl⟩ := hu.slice
      clear hv hu hl
      go_enter Tryd.func21, Tryd.ntmps21
      go_wp2_with fail
      refine R1.mono ?_
      rintro r w1 ⟨rfl, hb⟩
      have R2 := refRight_any (HU.out.below hb)
      rw [hm] at R2
      clear R1 hm
      go_wp2_with fail
      refine R2.mono ?_
      rintro r w2 ⟨rfl, hb2⟩
      clear R2
      go_wp2
      go_ret2
      exact ⟨⟨_, rfl, .empty none 0⟩, hb.trans (hb2.mono hb.size)⟩
    | true =>
      have l32 := right_iff' l hl
      have m32 := right_iff' m hm
      cases hv with
      | empty a cap => simp at l32
      | some b off cap l hl1 hl2 hl3 =>
        cases hu with
        | empty a cap => simp at m32
        | some b' off' cap' m hm1 hm2 hm3 =>
          have HL3 := Lib.hid hl3
          have HM3 := Lib.hid hm3
          clear hl3 hm3 HV
          rw [l32] at R1 ⊢
          rw [m32]
          have HM := Lib.hid hm
          clear hm hl
          go_enter Tryd.func21, Tryd.ntmps21
          go_wp2_with fail
          refine R1.mono ?_
          rintro r w1 ⟨rfl, hb⟩
          have R2 := refRight_any (HU.out.below hb)
          rw [HM.out, m32] at R2
          clear R1
          go_wp2_with fail
          refine R2.mono ?_
          rintro r w2 ⟨rfl, hb2⟩
          replace hb := hb.trans (hb2.mono hb.size)
          clear R2 hb2 HM HU
          go_wp2_with fail
          refine (refMake_any _).mono ?_
          rintro r w3 ⟨⟨g, rfl, hA, hg⟩, hb3⟩
          have hgw : w.heap.size ≤ g := Nat.le_trans hb.size hg
          replace hb := hb.trans (hb3.mono hb.size)
          clear hb3 hg
          go_wp2
          go_loopw [7] (fun i W => ∃ (k : Nat) (f : Nat → Int), k ≤ 32 ∧ i = .int .i64 k ∧ Arr W g 32 3 32 f ∧ (∀ j, j < k → f j = max (l.getD j 0) (m.getD j 0)) ∧ Below w.heap.size w W) (fun i _ => 32 - (intOf i).toNat)
          case atStart => exact ⟨0, _, Nat.zero_le _, rfl, hA, fun j hj => by omega, hb⟩
          case round =>
            obtain ⟨k, f, hk, rfl, hA, hf1, hB⟩ := hrel
            have F1 := Lib.hid hf1
            clear hf1
            by_cases hlt : k < 32
            · have c1 := (hB.cell (p := ⟨b, off + k, none⟩) (cell_lt (HL3.out k (by omega)))).trans (HL3.out k (by omega))
              have c2 := (hB.cell (p := ⟨b', off' + k, none⟩) (cell_lt (HM3.out k (by omega)))).trans (HM3.out k (by omega))
              have c3 := hA.cell k hlt
              have c4 := hA.free k
              generalize hx : l.getD k 0 = x at c1
              generalize hy : m.getD k 0 = y at c2
              have HX := Lib.hid hx
              have HY := Lib.hid hy
              have hS := (hA.set k (max x y) hlt).next (Below.refl _ _).drew
              have hB' := (hB.setCell (p := ⟨g, k, none⟩) hgw (.int .i64 (max x y))).drew
              clear hx hy hA
              go_wp2
              go_region
              go_wp2
              go_round
              case rel =>
                refine ⟨k + 1, _, by omega, by go_num, hS, fun j hj => ?_, hB'⟩
                by_cases e : j = k
                · rw [if_pos e, e, HX.out, HY.out]
                · rw [if_neg e]; exact F1.out j (by omega)
              case measure => simp [intOf]; omega
            · obtain rfl : k = 32 := by omega
              go_wp2
              go_ret2
              refine ⟨⟨_, rfl, ?_⟩, hB⟩
              refine hA.ints _ (by show (mergeT l m).length = 32; simp [mergeT]) fun j hj => ?_
              rw [F1.out j hj]
              exact (getD_map_range (fun i => max (l.getD i 0) (m.getD i 0)) 32 j hj).symm

set_option maxHeartbeats 1000000 in
theorem refMark_any {w : World} {v : Value} {l : List Int} (hv : IntsV w v l) (a n : Int) :
    Calls Tryd.prog 19 #[v, .int .i64 a, .int .i64 n] w fun r w' => (∃ v', r = .returned (.tuple #[v', .int .i64 (markE l a n)]) ∧ IntsV w' v' (markL l a n)) ∧ Below w.heap.size w w' := by
  have R1 := refRight_any hv
  unfold markE markL
  cases hl : rightT l with
  | false =>
    rw [hl] at R1
    obtain ⟨p, cap, rfl⟩ := hv.slice
    clear hv hl
    go_enter Tryd.func19, Tryd.ntmps19
    go_wp2_with fail
    refine R1.mono ?_
    rintro r w1 ⟨rfl, hb⟩
    go_wp2
    go_ret2
    exact ⟨⟨_, rfl, .empty none 0⟩, hb⟩
  | true =>
    rw [hl] at R1
    have X := fun W => refExt_any a n W
    cases hx : extB a n with
    | false =>
      rw [hx] at X
      obtain ⟨p, cap, rfl⟩ := hv.slice
      clear hv hl hx
      go_enter Tryd.func19, Tryd.ntmps19
      go_wp2_with fail
      refine R1.mono ?_
      rintro r w1 ⟨rfl, hb⟩
      go_wp2_with fail
      refine (X w1).mono ?_
      rintro r w2 ⟨rfl, hb2⟩
      clear X R1
      go_wp2
      go_ret2
      exact ⟨⟨_, rfl, .empty none 0⟩, hb.trans (hb2.mono hb.size)⟩
    | true =>
      rw [hx] at X
      obtain ⟨i0, hi, hz0, hz1, hz2⟩ := info_parts intInfo
      obtain ⟨g1, g2, g3, g4, g5⟩ := (extB_iff a n).1 hx
      have l32 := right_iff' l hl
      cases hv with
      | empty a cap => simp at l32
      | some b off cap l hl1 hl2 hl3 =>
        have HL3 := Lib.hid hl3
        clear hl3 hl hx
        rw [l32] at R1 ⊢
        go_enter Tryd.func19, Tryd.ntmps19
        go_wp2_with fail
        refine R1.mono ?_
        rintro r w1 ⟨rfl, hb⟩
        go_wp2_with fail
        refine (X w1).mono ?_
        rintro r w2 ⟨rfl, hb2⟩
        replace hb := hb.trans (hb2.mono hb.size)
        clear X R1 hb2
        go_wp2_with (first
          | (at_make; refine wpList_make_own _ rfl _ _ 22 rfl w.heap.size 3 i0 (.int .i64 0) 1 Tryd.underlying22 hi hz0 hz1 .i64 .i64 _ 32 rfl rfl rfl (by rw [hz2]; omega) (by unfold maxLen; omega) hb.size ?_; intro w3 hown0 hgrow0
             have hb3 : Below w.heap.size w w3 := hb.grown hgrow0 hb.size (fun _ h => by cases h)
             have H0 : Hid (w3.ownsRow w.heap.size 3 1 (.slice (some ⟨w2.heap.size, 0, none⟩) 0 32) 0 []) := hown0
             clear hown0 hgrow0)
          | (at_builtin; refine wpList_append_own _ rfl _ _ 22 rfl w.heap.size 3 i0 (.int .i64 0) 1 8 Tryd.underlying22 hi hz0 hz1 hz2 rfl (by decide) _ _ _ rfl H0.out ⟨b, off, none⟩ 32 cap (l.map fun x : Int => Value.int .i64 x) rfl (by simp [l32]) ?qc2 ?qc3 (by unfold maxLen; omega) (by omega) hb3.size ?_))
        case qc2 =>
          intro j u hj
          have hjn : j < l.length := by
            have := (List.getElem?_eq_some_iff.1 hj).1
            simpa using this
          rw [Addr.add_lit, (hb3.cell (p := ⟨b, off + j, none⟩) (cell_lt (HL3.out j hjn))).trans (HL3.out j hjn), ← hj]
          simp [List.getD, List.getElem?_eq_getElem hjn]
        case qc3 => intro u hu; obtain ⟨x, _, rfl⟩ := List.mem_map.1 hu; rfl
        intro v' w4 hown hgrow _
        obtain ⟨g, c1, rfl, hg, hA⟩ := Arr.of_row (xs := l) (by rw [l32]; simpa using hown) (by omega)
        have hb4 : Below w.heap.size w w4 := hb3.grown hgrow hb3.size (by intro k hk; simp [Value.ownBlock] at hk; have := hb.size; omega)
        rw [l32] at hA ⊢
        obtain ⟨k, hk⟩ : ∃ k : Nat, Int.tdiv a 128 = k := ⟨(a / 128).toNat, by rw [Int.tdiv_eq_ediv_of_nonneg g1]; omega⟩
        obtain ⟨m, hm'⟩ : ∃ m : Nat, Int.tdiv (a + n - 1) 128 = m := ⟨((a + n - 1) / 128).toNat, by rw [Int.tdiv_eq_ediv_of_nonneg (by omega)]; omega⟩
        have hk2 : (a / 128).toNat = k := by rw [Int.tdiv_eq_ediv_of_nonneg g1] at hk; omega
        have hm2 : ((a + n - 1) / 128).toNat = m := by rw [Int.tdiv_eq_ediv_of_nonneg (by omega)] at hm'; omega
        have hk3 : k < 32 := by omega
        have hm3 : m < 32 := by omega
        have hkm : k ≤ m := by omega
        clear hown hgrow hb3 H0 hb HL3 hi hz0 hz1 hz2
        by_cases h128 : n ≤ 128
        · have c2 := hA.cell k hk3
          have c3 := hA.free k
          have hS := (hA.set k 2 hk3)
          have hB' := hb4.setCell (p := ⟨g, k, none⟩) hg (.int .i64 2)
          clear hA hb4
          go_wp2
          go_ret2
          refine ⟨⟨_, rfl, ?_⟩, hB'⟩
          refine (show IntsV _ _ (markT l a n) from ?_)
          refine hS.ints _ (by simp [markT]) fun j hj => ?_
          unfold markT
          rw [getD_map_range _ _ _ hj]
          unfold markF
          rw [hk2, if_pos h128]
        · go_wp2
          go_loopw [9] (fun i W => ∃ (j : Nat) (f' : Nat → Int), k ≤ j ∧ j ≤ m + 1 ∧ i = .int .i64 j ∧ Arr W g c1 3 32 f' ∧ (∀ q, q < 32 → f' q = if k ≤ q ∧ q < j then max (l.getD q 0) 1 else l.getD q 0) ∧ Below w.heap.size w W) (fun i _ => m + 1 - (intOf i).toNat)
          case atStart => exact ⟨k, _, Nat.le_refl _, by omega, rfl, hA, fun q hq => (if_neg (by omega)).symm, hb4⟩
          case round =>
            obtain ⟨j, f', hj1, hj2, rfl, hA1, hf, hB⟩ := hrel
            have HF := Lib.hid hf
            clear hf
            by_cases hjm : j ≤ m
            · have c2 := hA1.cell j (by omega)
              have c3 := hA1.free j
              have hS := hA1.set j (max (f' j) 1) (by omega)
              have hB' := hB.setCell (p := ⟨g, j, none⟩) hg (.int .i64 (max (f' j) 1))
              clear hA1
              go_wp2
              go_round
              case rel =>
                refine ⟨j + 1, _, by omega, by omega, by go_num, hS, fun q hq => ?_, hB'⟩
                by_cases e : q = j
                · rw [if_pos e, HF.out j (by omega), if_neg (by omega), if_pos (by omega), e]
                · rw [if_neg e, HF.out q hq]
                  by_cases e2 : k ≤ q ∧ q < j
                  · rw [if_pos e2, if_pos (by omega)]
                  · rw [if_neg e2, if_neg (by omega)]
              case measure => simp [intOf]; omega
            · obtain rfl : j = m + 1 := by omega
              go_wp2
              go_ret2
              refine ⟨⟨_, rfl, ?_⟩, hB⟩
              refine (show IntsV _ _ (markT l a n) from ?_)
              refine hA1.ints _ (by simp [markT]) fun q hq => ?_
              unfold markT
              rw [getD_map_range _ _ _ hq]
              unfold markF
              rw [hk2, hm2, if_neg (show ¬ n ≤ 128 by omega), HF.out q hq]
              by_cases e2 : k ≤ q ∧ q < m + 1
              · rw [if_pos e2, if_pos (by omega)]
              · rw [if_neg e2, if_neg (by omega)]
end Go.Proofs.YteilnojniilmaaaDoor

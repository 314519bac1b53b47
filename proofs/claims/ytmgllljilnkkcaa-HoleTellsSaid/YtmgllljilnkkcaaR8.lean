/- The document's answers for layer 8, walked. -/
import Derived.Test.YtmgllljilnkkcaaQ8
namespace Go.Proofs.Ytmgllljilnkkcaa
open Go Go.RowKit
attribute [local go_sem ↓] Go.wp_at_zero Go.wp_at_succ
attribute [local go_sem ↓] run_max_int run_min_int

set_option maxHeartbeats 4000000 in
set_option maxRecDepth 20000 in
theorem refNext_any {w : World} {v : Value} {l : List Int} (hv : IntsV w v l) (x : Int) :
    Calls Try.prog 13 #[v, .int .i64 x] w fun r w' => r = .returned (optV (nextO l x)) ∧ Below w.heap.size w w' := by
  obtain ⟨a, cap, rfl⟩ := hv.slice
  obtain ⟨W0, hW0, e0, e1, e2⟩ := allocs1 w (.cells #[.int .i64 0, .int .i64 0] 30)
  have R := refRight_any (hv.below e0)
  cases hr : rightT l with
  | false =>
    rw [hr] at R
    have e : nextO l x = none := by unfold nextO; rw [hr]; rfl
    rw [e]
    have HW := Lib.hid hW0
    clear hW0 hv e hr
    go_enter Try.func13, Try.ntmps13
    go_wp2_with fail
    rw [HW.out]
    refine R.mono ?_
    rintro r w1 ⟨rfl, hb1⟩
    have b1 := (hb1.block _ (block_lt e2)).trans e2
    have c0 := cells_cell (i := 0) b1 (v := .int .i64 0) rfl
    have c1 := cells_cell (i := 1) b1 (v := .int .i64 0) rfl
    have c2 := cells_free (i := 0) b1
    have c3 := cells_free (i := 1) b1
    have d1 := heap_setCell_same (i := 1) (.int .i64 0) (heap_setCell_same (i := 0) (.int .i64 0) b1)
    have hbb := ((e0.trans (hb1.mono e0.size)).setCell (p := ⟨w.heap.size, 0, none⟩) (Nat.le_refl _) (.int .i64 0)).setCell (p := ⟨w.heap.size, 1, none⟩) (Nat.le_refl _) (.int .i64 0)
    have D1 := Lib.hid d1
    have HBB := Lib.hid hbb
    clear R b1 d1 hbb e0 e1 e2 hb1 HW
    go_wp2
    exact bodyPost_ret (results_hole_tmp rfl _ _ w.heap.size 0 0 rfl D1.out) rfl ⟨rfl, HBB.out⟩
  | true =>
    rw [hr] at R
    have hle0 := e0.size
    have HV := Lib.hid hv
    have HW := Lib.hid hW0
    clear hW0 hv
    go_enter Try.func13, Try.ntmps13
    go_wp2_with fail
    rw [HW.out]
    refine R.mono ?_
    rintro r w1 ⟨rfl, hb1⟩
    have b1 := (hb1.block _ (block_lt e2)).trans e2
    have hB1 := e0.trans (hb1.mono e0.size)
    have hs1 : w.heap.size < w1.heap.size := block_lt b1
    clear R e0 e1 e2 hb1 HW hle0
    go_wp2
    go_loopw [6] (fun i W => ∃ j : Nat, i = .int .i64 j ∧ x ≤ j ∧ x.toNat ≤ j ∧ (∀ k, x.toNat ≤ k → k < j → k < 32 → keptB l k = true) ∧ (32 < j → j = x.toNat) ∧ Below w1.heap.size w1 W) (fun i _ => 32 - (intOf i).toNat)
    case atStart => exact ⟨x.toNat, by congr 1; omega, by omega, Nat.le_refl _, fun k h1 h2 => by omega, fun _ => rfl, Below.refl _ _⟩
    case round =>
      obtain ⟨j, rfl, hj, hj', hk, hj32, hB⟩ := hrel
      have HK := Lib.hid hk
      clear hk
      by_cases hlt : j < 32
      · have KK := refKept_any ((HV.out.below hB1).below hB) (j : Int)
        have g1 : decide ((j : Int) < 32) = true := decide_eq_true (by omega)
        cases hkk : keptI l (j : Int) with
        | true =>
          rw [hkk] at KK
          have hk2 : ∀ k, x.toNat ≤ k → k < j + 1 → k < 32 → keptB l k = true := fun k h1 h2 h3 => by
            by_cases e : k = j
            · subst e; rw [keptB_I l k h3]; exact hkk
            · exact HK.out k h1 (by omega) h3
          have HK2 := Lib.hid hk2
          clear hkk hk2 HK
          go_wp2_with fail
          refine KK.mono ?_
          rintro r w2 ⟨rfl, hb2⟩
          have hB2 := hB.trans (hb2.mono hB.size)
          clear KK hb2 hB
          go_wp2
          go_round
          case rel => exact ⟨j + 1, by go_num, by omega, by omega, HK2.out, by omega, hB2⟩
          case measure => simp [intOf]; omega
        | false =>
          rw [hkk] at KK
          have hskip : scanH (keptB l) x.toNat x.toNat = scanH (keptB l) j j := scan_skip _ _ _ hj' (by omega) fun k h1 h2 => HK.out k h1 h2 (by omega)
          have hnj : keptB l j = false := by rw [keptB_I l j hlt]; exact hkk
          have HS := Lib.hid hskip
          have HNJ := Lib.hid hnj
          clear hkk hskip hnj HK
          go_wp2_with fail
          refine KK.mono ?_
          rintro r w2 ⟨rfl, hb2⟩
          have hB2 := hB.trans (hb2.mono hB.size)
          clear KK hb2 hB
          go_wp2
          obtain ⟨wo, rfl⟩ : ∃ wo : World, wo = w2 := ⟨_, rfl⟩
          go_loopw [7] (fun i W => ∃ k : Nat, i = .int .i64 k ∧ j ≤ k ∧ k ≤ 32 ∧ (∀ i, j ≤ i → i < k → keptB l i = false) ∧ Below w1.heap.size w1 W) (fun i _ => 32 - (intOf i).toNat)
          case atStart => exact ⟨j, rfl, Nat.le_refl _, by omega, fun k h1 h2 => by omega, hB2⟩
          case round =>
            obtain ⟨k, rfl, hk1, hk2, hkn, hB⟩ := hrel
            have HK := Lib.hid hkn
            clear hkn
            by_cases hlt2 : k < 32
            · have KK := refKept_any ((HV.out.below hB1).below hB) (k : Int)
              have g2 : decide ((k : Int) < 32) = true := decide_eq_true (by omega)
              cases hkk : keptI l (k : Int) with
              | false =>
                rw [hkk] at KK
                have hk3 : ∀ i, j ≤ i → i < k + 1 → keptB l i = false := fun i h1 h2 => by
                  by_cases e : i = k
                  · subst e; rw [keptB_I l i hlt2]; exact hkk
                  · exact HK.out i h1 (by omega)
                have HK2 := Lib.hid hk3
                clear hkk hk3 HK
                go_wp2_with fail
                refine KK.mono ?_
                rintro r w3 ⟨rfl, hb3⟩
                have hB3 := hB.trans (hb3.mono hB.size)
                clear KK hb3 hB hB2
                go_wp2
                go_round
                case rel => exact ⟨k + 1, by go_num, by omega, by omega, HK2.out, hB3⟩
                case measure => simp [intOf]; omega
              | true =>
                rw [hkk] at KK
                have hjk : j < k := by
                  rcases Nat.lt_or_eq_of_le hk1 with h | h
                  · exact h
                  · subst h
                    have := HNJ.out
                    rw [keptB_I l j hlt2, hkk] at this
                    cases this
                have hfin : nextO l x = some (j, k) := by
                  unfold nextO
                  rw [hr]
                  show (scanH _ _ _).head? = _
                  rw [HS.out, scan_run _ j j k (Nat.le_refl _) hk1 hjk (by omega) HK.out (by rw [keptB_I l k hlt2]; exact hkk)]
                  rfl
                have HFI := Lib.hid hfin
                clear hkk hfin HK
                go_wp2_with fail
                refine KK.mono ?_
                rintro r w3 ⟨rfl, hb3⟩
                have hB3 := hB.trans (hb3.mono hB.size)
                have b3 := (hB3.block _ hs1).trans b1
                have c0 := cells_cell (i := 0) b3 (v := .int .i64 0) rfl
                have c1 := cells_cell (i := 1) b3 (v := .int .i64 0) rfl
                have c2 := cells_free (i := 0) b3
                have c3 := cells_free (i := 1) b3
                have d1 := heap_setCell_same (i := 1) (.int .i64 (k : Int)) (heap_setCell_same (i := 0) (.int .i64 (j : Int)) b3)
                have hbb := ((hB1.trans (hB3.mono (by omega))).setCell (p := ⟨w.heap.size, 0, none⟩) (Nat.le_refl _) (.int .i64 (j : Int))).setCell (p := ⟨w.heap.size, 1, none⟩) (Nat.le_refl _) (.int .i64 (k : Int))
                have D1 := Lib.hid d1
                have HBB := Lib.hid hbb
                clear KK b1 b3 d1 hbb hb3 hB hB2 hB3
                go_wp2
                exact bodyPost_ret (results_hole_tmp rfl _ _ w.heap.size j k rfl D1.out) rfl ⟨by rw [HFI.out]; rfl, HBB.out⟩
            · obtain rfl : k = 32 := by omega
              have hfin : nextO l x = some (j, 32) := by
                unfold nextO
                rw [hr]
                show (scanH _ _ _).head? = _
                rw [HS.out, scan_run _ j j 32 (Nat.le_refl _) hk1 hlt (by omega) HK.out (keptB_32 l)]
                rfl
              have HFI := Lib.hid hfin
              rw [show ((32 : Nat) : Int) = 32 from rfl]
              have b3 := (hB.block _ hs1).trans b1
              have c0 := cells_cell (i := 0) b3 (v := .int .i64 0) rfl
              have c1 := cells_cell (i := 1) b3 (v := .int .i64 0) rfl
              have c2 := cells_free (i := 0) b3
              have c3 := cells_free (i := 1) b3
              have d1 := heap_setCell_same (i := 1) (.int .i64 32) (heap_setCell_same (i := 0) (.int .i64 (j : Int)) b3)
              have hbb := ((hB1.trans (hB.mono (by omega))).setCell (p := ⟨w.heap.size, 0, none⟩) (Nat.le_refl _) (.int .i64 (j : Int))).setCell (p := ⟨w.heap.size, 1, none⟩) (Nat.le_refl _) (.int .i64 32)
              have D1 := Lib.hid d1
              have HBB := Lib.hid hbb
              clear b1 b3 d1 hbb hB hB2 hfin HK
              go_wp2
              exact bodyPost_ret (results_hole_tmp rfl _ _ w.heap.size j 32 rfl D1.out) rfl ⟨by rw [HFI.out]; rfl, HBB.out⟩
      · have hfin : nextO l x = none := by
          unfold nextO
          rw [hr]
          show (scanH _ _ _).head? = _
          by_cases h33 : 33 ≤ x.toNat
          · rw [scanH_end _ _ _ h33]; rfl
          · have h32 : j = 32 := by
              by_cases h : 32 < j
              · have := hj32 h; omega
              · omega
            rw [scan_skip _ _ 32 (by omega) (by omega) fun k h1 h2 => HK.out k h1 (by omega) h2, scanH_none (by omega) (keptB_32 l), scanH_end _ _ _ (by omega)]
            rfl
        have HFI := Lib.hid hfin
        have g1 : decide ((j : Int) < 32) = false := decide_eq_false (by omega)
        have b3 := (hB.block _ hs1).trans b1
        have c0 := cells_cell (i := 0) b3 (v := .int .i64 0) rfl
        have c1 := cells_cell (i := 1) b3 (v := .int .i64 0) rfl
        have c2 := cells_free (i := 0) b3
        have c3 := cells_free (i := 1) b3
        have d1 := heap_setCell_same (i := 1) (.int .i64 0) (heap_setCell_same (i := 0) (.int .i64 0) b3)
        have hbb := ((hB1.trans (hB.mono (by omega))).setCell (p := ⟨w.heap.size, 0, none⟩) (Nat.le_refl _) (.int .i64 0)).setCell (p := ⟨w.heap.size, 1, none⟩) (Nat.le_refl _) (.int .i64 0)
        have D1 := Lib.hid d1
        have HBB := Lib.hid hbb
        clear b1 b3 d1 hbb hB HK hfin
        go_wp2
        exact bodyPost_ret (results_hole_tmp rfl _ _ w.heap.size 0 0 rfl D1.out) rfl ⟨by rw [HFI.out]; rfl, HBB.out⟩

theorem optV_at (L : List (Nat × Nat)) (k : Nat) : optV L[k]? = .tuple #[.agg #[.int .i64 ((L.getD k (0, 0)).1 : Nat), .int .i64 ((L.getD k (0, 0)).2 : Nat)], .bool (decide (k < L.length))] := by
  unfold optV encH
  by_cases h : k < L.length
  · simp [List.getD, h]
  · simp [List.getD, h]
theorem cellsH_take {L : List (Nat × Nat)} {k : Nat} (hk : k < L.length) : cellsH (L.take (k + 1)) = cellsH (L.take k) ++ [.int .i64 ((L.getD k (0, 0)).1 : Nat), .int .i64 ((L.getD k (0, 0)).2 : Nat)] := by
  have e : L.getD k (0, 0) = L[k] := by simp [List.getD, hk]
  rw [e, List.take_add_one, List.getElem?_eq_getElem hk, Option.toList_some, cellsH_snoc]

theorem size_setI (W : World) (b i : Nat) (v : Value) : (W.setCell ⟨b, i, none⟩ v).heap.size = W.heap.size := by show (W.heap.modify _ _).size = _; rw [Array.size_modify]
theorem grownBy_setI (W : World) (b i : Nat) (v : Value) : W.grownBy (W.setCell ⟨b, i, none⟩ v) (some b) :=
  ⟨rfl, rfl, rfl, by show W.heap.size ≤ (W.heap.modify _ _).size; rw [Array.size_modify]; exact Nat.le_refl _, fun j _ hj => Below.heap_setCell W ⟨b, i, none⟩ v j (fun e => hj (by rw [e]))⟩

set_option maxHeartbeats 4000000 in
set_option maxRecDepth 20000 in
theorem refAll_any {w : World} {v : Value} {l : List Int} (hv : IntsV w v l) :
    Calls Try.prog 11 #[v] w fun r w' => (∃ v', r = .returned (.tuple #[v', .int .i64 (allE l)]) ∧ HolesV w' v' (allL l)) ∧ Below w.heap.size w w' := by
  obtain ⟨i0, hi, hz0, hz1, hz2⟩ := info_parts holeInfo
  obtain ⟨a, cap, rfl⟩ := hv.slice
  have R := refRight_any hv
  cases hr : rightT l with
  | false =>
    rw [hr] at R
    have e1 : allE l = 70 := by unfold allE; rw [hr]; rfl
    have e2 : allL l = [] := by unfold allL; rw [hr]; rfl
    rw [e1, e2]
    clear e1 e2 hr hv
    go_enter Try.func11, Try.ntmps11
    go_wp2_with fail
    refine R.mono ?_
    rintro r w1 ⟨rfl, hb1⟩
    clear R
    go_wp2
    go_ret2
    exact ⟨⟨_, rfl, .empty none 0⟩, hb1⟩
  | true =>
    rw [hr] at R
    have e1 : allE l = 0 := by unfold allE; rw [hr]; rfl
    rw [e1]
    have HV := Lib.hid hv
    have hlen := allL_len l
    have HW := Lib.hid (fun k => next_walk l k)
    generalize allL l = L at *
    clear e1 hr hv
    go_enter Try.func11, Try.ntmps11
    go_wp2_with fail
    refine R.mono ?_
    rintro r w1 ⟨rfl, hb1⟩
    have m1 := refNext_any (HV.out.below hb1) ((fromW L 0 : Nat) : Int)
    rw [HW.out 0 (Nat.zero_le _), optV_at] at m1
    rw [fromW_zero] at m1
    change Calls _ _ #[_, .int .i64 0] _ _ at m1
    generalize hx : L.getD 0 (0, 0) = x at m1
    obtain ⟨x1, x2⟩ := x
    simp only at m1
    obtain ⟨ok, hok⟩ : ∃ ok, decide (0 < L.length) = ok := ⟨_, rfl⟩
    rw [hok] at m1
    have HX := Lib.hid hx
    have HOK := Lib.hid hok
    clear R hx hok
    go_wp2_with fail
    refine m1.mono ?_
    rintro r w2 ⟨rfl, hb2⟩
    obtain ⟨w3, hw3, e0, e1, b3⟩ := allocs1 w2 (.cells #[.int .i64 (x1 : Int), .int .i64 (x2 : Int)] 30)
    have hb := (hb1.trans (hb2.mono hb1.size)).trans (e0.mono (by have := hb1.size; have := hb2.size; omega))
    have hs2 : w.heap.size ≤ w2.heap.size := by have := hb1.size; have := hb2.size; omega
    have HB3 := Lib.hid b3
    have HB := Lib.hid hb
    have HE1 := Lib.hid e1
    clear m1 hb1 hb2 e0 e1 b3 hb
    go_wp2
    try rw [hw3]
    clear hw3
    go_loopw [4, 6] (fun o q W => ∃ (k : Nat) (ao : Option Addr) (co : Nat), k ≤ L.length ∧ o = .slice ao k co ∧ q = .bool (decide (k < L.length)) ∧ W.ownsRow (w2.heap.size + 1) 30 2 o k (cellsH (L.take k)) ∧ W.heap[w2.heap.size]? = some (.cells #[.int .i64 ((L.getD k (0, 0)).1 : Nat), .int .i64 ((L.getD k (0, 0)).2 : Nat)] 30 (0, 0)) ∧ w2.heap.size + 1 ≤ W.heap.size ∧ Below w.heap.size w W) (fun o _ _ => 100 - (match o with | .slice _ n _ => n | _ => 0))
    case atStart => exact ⟨0, none, 0, Nat.zero_le _, rfl, by rw [HOK.out], World.ownsRow_nil _ _ _ _, by rw [HX.out]; exact HB3.out, by rw [HE1.out]; exact Nat.le_refl _, HB.out⟩
    case round =>
      obtain ⟨k, ao, co, hk, rfl, rfl, hrow, hbox, hsz, hB⟩ := hrel
      by_cases hlt : k < L.length
      · have d1 : decide (k < L.length) = true := decide_eq_true hlt
        have hn := HW.out (k + 1) hlt
        rw [fromW_succ] at hn
        have hct := cellsH_take hlt
        have m0 := fun (W : World) (hbw : Below w.heap.size w W) => refNext_any (HV.out.below hbw) (((L.getD k (0, 0)).2 : Nat) : Int)
        rw [hn, optV_at] at m0
        generalize hx : L.getD k (0, 0) = x at *
        generalize hy : L.getD (k + 1) (0, 0) = y at *
        obtain ⟨x1', x2'⟩ := x
        obtain ⟨y1, y2⟩ := y
        simp only at hbox m0 hct
        obtain ⟨ok', hok'⟩ : ∃ ok, decide (k + 1 < L.length) = ok := ⟨_, rfl⟩
        rw [hok'] at m0
        have c0 := cells_cell (i := 0) hbox (v := .int .i64 (x1' : Int)) rfl
        have c1 := cells_cell (i := 1) hbox (v := .int .i64 (x2' : Int)) rfl
        have hlenk : k < 33 := by omega
        have HY := Lib.hid hy
        have HOK' := Lib.hid hok'
        have HCT := Lib.hid hct
        have HBOX := Lib.hid hbox
        have M0 := Lib.hid m0
        clear hx hy hok' hct hn hbox m0 HX HOK HB3 HB HE1
        go_wp2_with (at_builtin; refine wpList_append_own _ rfl _ _ 25 rfl (w2.heap.size + 1) 30 i0 (.agg #[.int .i64 0, .int .i64 0]) 2 16 Try.underlying25 hi hz0 hz1 hz2 rfl (by decide) _ _ _ rfl (hrow.alloc _) ⟨wr.heap.size, 0, none⟩ 1 1 [.int .i64 (x1' : Int), .int .i64 (x2' : Int)] rfl rfl (cell_two_new _ _ _ _) (by simp [Value.oneCell']) (by unfold maxLen; omega) (by omega) (by simp; omega) ?_; intro v' w4 hown' hgrow _; obtain ⟨g', cap', rfl⟩ := ownsRow_succ hown'; have hbox4 := (hgrow.block w2.heap.size (by simp; omega) (fun e => by have := ownsRow_block hrow e; omega)).trans ((Below.heap_alloc wr _ _ (by omega)).trans HBOX.out); have d1 := cells_cell (i := 1) hbox4 (v := .int .i64 (x2' : Int)) rfl)
        have hB4 : Below w.heap.size w w4 := (hB.alloc hB.size _).grown hgrow (by have := hB.size; simp; omega) (fun j hj => by have := ownsRow_block hrow hj.symm; omega)
        have hsz4 : w2.heap.size + 1 ≤ w4.heap.size := block_lt hbox4
        have m1 := M0.out w4 hB4
        have hown4 : w4.ownsRow (w2.heap.size + 1) 30 2 (.slice (some ⟨g', 0, none⟩) (k + 1) cap') (k + 1) (cellsH (L.take (k + 1))) := by rw [HCT.out]; exact hown'
        clear hgrow hown' hrow hB HCT HBOX M0 c0 c1
        refine m1.mono ?_
        rintro r w5 ⟨rfl, hb5⟩
        have hbox5 := (hb5.block _ hsz4).trans hbox4
        have hown5 := ownsRow_below hown4 hb5
        have hB5 := hB4.trans (hb5.mono hB4.size)
        have c0 := cells_cell (i := 0) hbox5 (v := .int .i64 (x1' : Int)) rfl
        have c1 := cells_cell (i := 1) hbox5 (v := .int .i64 (x2' : Int)) rfl
        have c2 := cells_free (i := 0) hbox5
        have c3 := cells_free (i := 1) hbox5
        have hbox6 := heap_setCell_same (i := 1) (.int .i64 (y2 : Int)) (heap_setCell_same (i := 0) (.int .i64 (y1 : Int)) hbox5)
        have hB6 := (hB5.setCell (p := ⟨w2.heap.size, 0, none⟩) hs2 (.int .i64 (y1 : Int))).setCell (p := ⟨w2.heap.size, 1, none⟩) hs2 (.int .i64 (y2 : Int))
        have hne : ∀ {W : World}, W.ownsRow (w2.heap.size + 1) 30 2 (.slice (some ⟨g', 0, none⟩) (k + 1) cap') (k + 1) (cellsH (L.take (k + 1))) → (Value.slice (some ⟨g', 0, none⟩) (k + 1) cap').ownBlock ≠ some w2.heap.size := fun h e => by have := ownsRow_block h e.symm; omega
        have hown6 := (hown5.kept (grownBy_setI w5 w2.heap.size 0 (.int .i64 (y1 : Int))) (.inr (hne hown5)))
        have hown7 := (hown6.kept (grownBy_setI _ w2.heap.size 1 (.int .i64 (y2 : Int))) (.inr (hne hown6)))
        have HBOX6 := Lib.hid hbox6
        have HB6 := Lib.hid hB6
        have HO7 := Lib.hid hown7
        have hsz6 : w2.heap.size + 1 ≤ w5.heap.size := block_lt hbox5
        clear m1 hbox4 hb5 hbox5 hown5 hB5 hbox6 hB6 hne hown6 hown7 hown4 hB4 d1
        go_wp2
        go_round
        case rel => exact ⟨k + 1, _, _, hlt, rfl, by rw [HOK'.out], HO7.out, by rw [HY.out]; exact HBOX6.out, by rw [size_setI, size_setI]; exact hsz6, HB6.out⟩
        case measure => simp; omega
      · obtain rfl : k = L.length := by omega
        rw [List.take_length] at hrow
        have d1 : decide (L.length < L.length) = false := decide_eq_false (by omega)
        have HO := Lib.hid (HolesV.of_row hrow)
        clear hrow hbox HX HOK HB3 HB HE1
        go_wp2
        go_ret2
        exact ⟨⟨_, rfl, HO.out⟩, hB⟩
end Go.Proofs.Ytmgllljilnkkcaa

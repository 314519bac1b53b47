/- HoleFirst holds of every list and every line: the law's own text walked, and the statement. -/
import Derived.Test.YtmgllljilnkkcaaQ8
import Derived.Test.YtmgllljilnkkcaaOp
import Derived.Test.YtmgllljilnkkcaaRows
namespace Go.Proofs.Ytmgllljilnkkcaa
open Go.RowKit
attribute [local go_sem ↓] Go.wp_at_zero Go.wp_at_succ
attribute [local go_sem ↓] run_max_int run_min_int

/-- What the hole from a line on is. -/
theorem next_none {l : List Int} (hr : rightT l = true) (x : Int) (h : nextO l x = none) : ∀ j : Nat, x ≤ j → j < 32 → keptI l (j : Int) = true := by
  intro j hj hj'
  unfold nextO at h
  rw [hr] at h
  have h' : scanH (keptB l) x.toNat x.toNat = [] := List.head?_eq_none_iff.1 h
  by_cases h33 : x.toNat ≤ 33
  · rw [← keptB_I l j hj']
    exact scan_nil _ _ _ (Nat.le_refl _) h33 (keptB_32 l) (fun i hi hi' => by omega) h' j (by omega) (by omega)
  · omega
theorem next_some {l : List Int} (hr : rightT l = true) (x : Int) (h1 h2 : Nat) (h : nextO l x = some (h1, h2)) :
    h1 < h2 ∧ h2 ≤ 32 ∧ x ≤ h1 ∧ (∀ j : Nat, x ≤ j → j < h1 → keptI l (j : Int) = true) ∧ (∀ j : Nat, h1 ≤ j → j < h2 → keptI l (j : Int) = false) ∧ (h2 < 32 → keptI l (h2 : Int) = true) := by
  unfold nextO at h
  rw [hr] at h
  cases hs : scanH (keptB l) x.toNat x.toNat with
  | nil => simp only [cond_true] at h; rw [hs] at h; cases h
  | cons y rest =>
    simp only [cond_true] at h
    rw [hs] at h
    obtain rfl : y = (h1, h2) := by simpa using h
    obtain ⟨a1, a2, a3, a4, a5, a6, a7⟩ := scan_head _ _ _ _ _ (Nat.le_refl _) (fun j hj hj' => by omega) hs
    simp only at a1 a2 a3 a4 a5 a6
    refine ⟨a1, by omega, by omega, fun j hj hj' => ?_, fun j hj hj' => ?_, fun hj => ?_⟩
    · rw [← keptB_I l j (by omega)]; exact a4 j (by omega) hj'
    · rw [← keptB_I l j (by omega)]; exact a5 j hj hj'
    · rw [← keptB_I l h2 hj]; exact a6
theorem next_wrong {l : List Int} (hr : rightT l = false) (x : Int) : nextO l x = none := by unfold nextO; rw [hr]; rfl

set_option maxHeartbeats 4000000 in
set_option maxRecDepth 20000 in
theorem first_law {w : World} {v : Value} {l : List Int} (hv : IntsV w v l) (x : Int) :
    Calls Try.prog 7 #[v, .int .i64 x] w fun r w' => r = .returned (.bool true) ∧ Below w.heap.size w w' := by
  have hb : Below w.heap.size w w := Below.refl _ _
  generalize hl' : l.take 34 = l'
  have HL := Lib.hid hl'
  clear hl'
  go_enter Try.func7, Try.ntmps7
  go_wp2_with fail
  refine (shown_any).mono ?_
  rintro r w0 ⟨rfl, hb0⟩
  replace hv := hv.below hb0
  replace hb := hb.trans (hb0.mono hb.size)
  clear hb0
  go_wp2_with fail
  refine (cut_any hv).mono ?_
  rintro r w1 ⟨⟨vc, rfl, hc⟩, rfl⟩
  clear hv
  rw [HL.out] at hc
  have m1 := next_any hc x
  clear HL
  go_wp2_with fail
  cases hr : rightT l' with
  | false =>
    rw [next_wrong hr] at m1
    change Calls _ _ _ _ fun r w' => r = .returned (.tuple #[.agg #[.int .i64 0, .int .i64 0], .bool false]) ∧ _ at m1
    refine m1.mono ?_
    rintro r w2 ⟨rfl, hb2⟩
    obtain ⟨w3, hw3, e0, e1, b4⟩ := allocs1 w2 (.cells #[.int .i64 0, .int .i64 0] 30)
    replace hb := (hb.trans (hb2.mono hb.size))
    replace hb := hb.trans (e0.mono hb.size)
    have hc3 := (hc.below hb2).below e0
    have R := right_any7 hc3
    rw [hr] at R
    have c0 := cells_cell (i := 0) b4 (v := .int .i64 0) rfl
    have c1 := cells_cell (i := 1) b4 (v := .int .i64 0) rfl
    have HW := Lib.hid hw3
    clear m1 hb2 e0 e1 b4 hr hc hc3 hw3
    by_cases hx32 : max x 0 < 32
    · go_wp2
      rw [HW.out]
      refine wp_loop_rounds 1 ?_
      rw [rounds_succ]
      go_wp2_with fail
      refine R.mono ?_
      rintro r w' ⟨rfl, rfl⟩
      go_wp2
      refine wp_loop_rounds 1 ?_
      rw [rounds_succ]
      go_wp2
      go_ret
      exact ⟨rfl, by first | exact hb | exact hb.drew⟩
    · go_wp2
      rw [HW.out]
      refine wp_loop_rounds 1 ?_
      rw [rounds_succ]
      go_wp2
      refine wp_loop_rounds 1 ?_
      rw [rounds_succ]
      go_wp2
      go_ret
      exact ⟨rfl, by first | exact hb | exact hb.drew⟩
  | true =>
    cases hn : nextO l' x with
    | none =>
      rw [hn] at m1
      change Calls _ _ _ _ fun r w' => r = .returned (.tuple #[.agg #[.int .i64 0, .int .i64 0], .bool false]) ∧ _ at m1
      have hk := next_none hr x hn
      have HK := Lib.hid hk
      clear hn hk
      refine m1.mono ?_
      rintro r w2 ⟨rfl, hb2⟩
      obtain ⟨w3, hw3, e0, e1, b4⟩ := allocs1 w2 (.cells #[.int .i64 0, .int .i64 0] 30)
      replace hb := (hb.trans (hb2.mono hb.size))
      replace hb := hb.trans (e0.mono hb.size)
      have hc3 := (hc.below hb2).below e0
      have c0 := cells_cell (i := 0) b4 (v := .int .i64 0) rfl
      have c1 := cells_cell (i := 1) b4 (v := .int .i64 0) rfl
      have HW := Lib.hid hw3
      clear m1 hb2 e0 e1 b4 hc hw3
      go_wp2
      rw [HW.out]
      clear HW
      go_loopw [9] (fun i W => ∃ j : Nat, i = .int .i64 j ∧ x ≤ j ∧ Below w3.heap.size w3 W) (fun i _ => 32 - (intOf i).toNat)
      case atStart => exact ⟨(max x 0).toNat, by rw [Int.toNat_of_nonneg (by omega)], by omega, Below.refl _ _⟩
      case round =>
        obtain ⟨j, rfl, hj, hB⟩ := hrel
        have hc4 := hc3.below hB
        by_cases hlt : j < 32
        · have R := right_any7 hc4
          rw [hr] at R
          have KK := kept_any7 hc4 (j : Int)
          change Calls _ _ _ _ fun r w' => r = .returned (.bool (keptI l' (j : Int))) ∧ _ at KK
          rw [HK.out j hj hlt] at KK
          clear c0 c1 hr
          go_wp2_with fail
          refine R.mono ?_
          rintro r w' ⟨rfl, rfl⟩
          go_wp2_with fail
          refine KK.mono ?_
          rintro r w5 ⟨rfl, hb5⟩
          have hB5 := hB.trans (hb5.mono hB.size)
          clear R KK hb5 hB
          go_wp2
          go_round
          case rel => exact ⟨j + 1, by go_num, by omega, hB5⟩
          case measure => simp [intOf]; omega
        · have d0 := (hB.cell (p := ⟨w2.heap.size, 0, none⟩) (cell_lt c0)).trans c0
          have d1 := (hB.cell (p := ⟨w2.heap.size, 1, none⟩) (cell_lt c1)).trans c1
          have g1 : decide ((j : Int) < 32) = false := decide_eq_false (by omega)
          have hb5 := hb.trans (hB.mono hb.size)
          clear c0 c1 hr hc4 hB
          go_wp2
          refine wp_loop_rounds 1 ?_
          rw [rounds_succ]
          go_wp2
          go_ret
          exact ⟨rfl, by first | exact hb5 | exact hb5.drew⟩
    | some h =>
      rw [hn] at m1
      obtain ⟨h1, h2⟩ := h
      change Calls _ _ _ _ fun r w' => r = .returned (.tuple #[.agg #[.int .i64 (h1 : Int), .int .i64 (h2 : Int)], .bool true]) ∧ _ at m1
      obtain ⟨k1, k2, k3, k4, k5, k6⟩ := next_some hr x h1 h2 hn
      have HK4 := Lib.hid k4
      have HK5 := Lib.hid k5
      have HK6 := Lib.hid k6
      clear hn k4 k5 k6
      refine m1.mono ?_
      rintro r w2 ⟨rfl, hb2⟩
      obtain ⟨w3, hw3, e0, e1, b4⟩ := allocs1 w2 (.cells #[.int .i64 (h1 : Int), .int .i64 (h2 : Int)] 30)
      replace hb := (hb.trans (hb2.mono hb.size))
      replace hb := hb.trans (e0.mono hb.size)
      have hc3 := (hc.below hb2).below e0
      have c0 := cells_cell (i := 0) b4 (v := .int .i64 (h1 : Int)) rfl
      have c1 := cells_cell (i := 1) b4 (v := .int .i64 (h2 : Int)) rfl
      clear m1 hb2 e0 e1 b4 hc
      go_wp2
      go_loopw [9] (fun i W => ∃ j : Nat, i = .int .i64 j ∧ x ≤ j ∧ j ≤ h1 ∧ Below w3.heap.size w3 W) (fun i _ => 32 - (intOf i).toNat)
      case atStart => exact ⟨(max x 0).toNat, by rw [Int.toNat_of_nonneg (by omega)], by omega, by omega, Below.refl _ _⟩
      case round =>
        obtain ⟨j, rfl, hj, hjm, hB⟩ := hrel
        have hc4 := hc3.below hB
        by_cases hlt : j < h1
        · have R := right_any7 hc4
          rw [hr] at R
          have KK := kept_any7 hc4 (j : Int)
          change Calls _ _ _ _ fun r w' => r = .returned (.bool (keptI l' (j : Int))) ∧ _ at KK
          rw [HK4.out j hj hlt] at KK
          clear c0 c1 hr
          go_wp2_with fail
          refine R.mono ?_
          rintro r w' ⟨rfl, rfl⟩
          go_wp2_with fail
          refine KK.mono ?_
          rintro r w5 ⟨rfl, hb5⟩
          have hB5 := hB.trans (hb5.mono hB.size)
          clear R KK hb5 hB
          go_wp2
          go_round
          case rel => exact ⟨j + 1, by go_num, by omega, by omega, hB5⟩
          case measure => simp [intOf]; omega
        · obtain rfl : j = h1 := by omega
          have d0 := (hB.cell (p := ⟨w2.heap.size, 0, none⟩) (cell_lt c0)).trans c0
          have d1 := (hB.cell (p := ⟨w2.heap.size, 1, none⟩) (cell_lt c1)).trans c1
          clear c0 c1 hr
          go_wp2
          obtain ⟨wo, rfl⟩ : ∃ wo : World, wo = wr := ⟨_, rfl⟩
          go_loopw [10] (fun i W => ∃ k : Nat, i = .int .i64 k ∧ j ≤ k ∧ k ≤ h2 ∧ Below wo.heap.size wo W) (fun i _ => 32 - (intOf i).toNat)
          case atStart => exact ⟨j, rfl, Nat.le_refl _, by omega, Below.refl _ _⟩
          case round =>
            obtain ⟨k, rfl, hk1, hk2, hB2⟩ := hrel
            have d0' := (hB2.cell (p := ⟨w2.heap.size, 0, none⟩) (cell_lt d0)).trans d0
            have d1' := (hB2.cell (p := ⟨w2.heap.size, 1, none⟩) (cell_lt d1)).trans d1
            have hc5 := hc4.below hB2
            by_cases hlt2 : k < h2
            · have KK := kept_any7 hc5 (k : Int)
              change Calls _ _ _ _ fun r w' => r = .returned (.bool (keptI l' (k : Int))) ∧ _ at KK
              rw [HK5.out k hk1 hlt2] at KK
              have g40 : decide ((k : Int) < 40) = true := decide_eq_true (by omega)
              clear d0 d1
              go_wp2_with fail
              refine KK.mono ?_
              rintro r w5 ⟨rfl, hb5⟩
              have hB5 := hB2.trans (hb5.mono hB2.size)
              clear KK hb5 hB2 d0' d1' g40
              go_wp2
              go_round
              case rel => exact ⟨k + 1, by go_num, by omega, by omega, hB5⟩
              case measure => simp [intOf]; omega
            · obtain rfl : k = h2 := by omega
              have hb5 := (hb.trans (hB.mono hb.size)).trans (hB2.mono (by have := hb.size; have := hB.size; omega))
              have g1 : decide (x ≤ (j : Int)) = true := decide_eq_true hj
              have g3 : decide ((k : Int) ≤ 32) = true := decide_eq_true (by omega)
              by_cases h32 : k = 32
              · clear d0 d1 hB hB2
                go_wp2
                go_ret
                exact ⟨by simp, by first | exact hb5 | exact hb5.drew⟩
              · have KK := kept_any7 hc5 (k : Int)
                change Calls _ _ _ _ fun r w' => r = .returned (.bool (keptI l' (k : Int))) ∧ _ at KK
                rw [HK6.out (by omega)] at KK
                have g4 : ((k : Int) == 32) = false := beq_eq_false_iff_ne.2 (by omega)
                clear d0 d1 hB hB2
                go_wp2_with fail
                refine KK.mono ?_
                rintro r w5 ⟨rfl, hb6⟩
                have hb7 := hb5.trans (hb6.mono hb5.size)
                clear KK hb6
                go_wp2
                go_ret
                exact ⟨rfl, by first | exact hb7 | exact hb7.drew⟩
end Go.Proofs.Ytmgllljilnkkcaa

namespace Go.Proofs.Ytmgllljilnkkcaa.lawHoleFirst
open Go.ChangeShapes Go.WideShapes Go.ChangeAt Go.RowKit
theorem own : ownKnob Try.prog.godebug = none := by kernel_rfl
set_option maxHeartbeats 800000 in
set_option maxRecDepth 100000 in
theorem lifted (os : Os) (started : os.Started) (H : Type) (enc : TypeId × Value → H) :
    ReturnsInHanded {} Try.checked os 7 .any (Rows.holeFirstSpec.pre6 enc Try.prog Try.f7 Rows.holeFirstRow.domain false) (Rows.holeFirstSpec.post enc Try.prog Try.f7 false true false false) := by
  refine returnsInHanded_of_change_sized (C := Try.checked) own started (by kernel_rfl) Try.func7
    (ChangeSpec.witness6 (enc := enc) (C := Try.checked) false ⟨#[], #[.slice none 0 0, .int .i64 0], []⟩ 8 (by kernel_rfl) (by kernel_rfl) (by kernel_rfl) (by kernel_rfl)) ?_
  intro W base args ds gs before hval0 hW _ _ _
  have hval : ∀ (j : Nat) t v, Try.f7.params[j]? = some t → args[j]? = some v → Value.okWide Try.prog W .any base t v := hval0
  have hW' := hW
  obtain ⟨p, q, hA0, hV, rfl, _, _⟩ := hW
  have hA : DataW.TrodAll enc Try.prog W 0 (fun _ => true) true Try.f7.params.toList args.toList ds p := hA0
  rw [Try.params7] at hA hval
  obtain ⟨v0, vs0, d0, ds0, p0, q0, hargs, rfl, rfl, h0, r0⟩ := trodAll_cons hA
  obtain ⟨v1, vs1, d1, ds1, p1, q1, rfl, rfl, rfl, h1, r1⟩ := trodAll_cons r0
  obtain ⟨rfl, rfl, rfl⟩ := trodAll_nil r1
  obtain rfl : args = #[v0, v1] := by cases args; simp_all
  obtain ⟨rfl, rfl⟩ := trodVars_none hV
  have k0 := h0
  have k1 := h1
  obtain ⟨l0, i0⟩ := ints_open (hval 0 22 v0 rfl rfl) h0
  obtain ⟨x1, rfl, rfl, rfl, wx1⟩ := open_int Try.underlying3 (hval 1 3 v1 rfl rfl) h1
  clear hA0 hval0
  simp only [List.append_nil] at hW'
  refine (first_law i0 x1).mono fun e W' ⟨he, hb⟩ => ?_
  subst he
  have hlt := hW'.lt
  have harg0 := Below.trod laidOut (by kernel_rfl) (of_decide_eq_true (by kernel_rfl)) k0 hb (fun y hy => by first | (cases hy; done) | (simpa using hlt y (by simp [hy])))
  have harg1 := Below.trod laidOut (by kernel_rfl) (of_decide_eq_true (by kernel_rfl)) k1 hb (fun y hy => by first | (cases hy; done) | (simpa using hlt y (by simp [hy])))
  exact ⟨_, rfl, _, _, _, [], _, [], hW', trodAll_cons_mk (shut_bool Try.underlying4 _) trodAll_mk0, (trodAll_cons_mk harg0 (trodAll_cons_mk harg1 trodAll_mk0)), rfl, hb.frame _, fun h => by cases h⟩

theorem said : Rows.HoleFirstSaid :=
  OpenClaim.holds_of_wide 7 Try.f7 rfl rfl rfl rfl rfl rfl rfl ⟨rfl, rfl, rfl, rfl, rfl⟩ rfl rfl rfl rfl rfl (by kernel_rfl) Try.func7 (by kernel_rfl)
    (of_decide_eq_true (by kernel_rfl)) (by unfold Func.isWrapper; first | (rw [if_pos (by decide +kernel)]; kernel_rfl) | (rw [if_neg (by decide +kernel)]; exact ⟨rfl, rfl⟩))
    (fun os started H enc _ => lifted os started H enc)
end Go.Proofs.Ytmgllljilnkkcaa.lawHoleFirst

/- HoleLines holds of every list and every line: the law's own text walked, and the statement. -/
import Derived.Test.YtmgllljilnkkcaaQ8
import Derived.Test.YtmgllljilnkkcaaOp
import Derived.Test.YtmgllljilnkkcaaRows
import Derived.BigQuiet
import Derived.Deep.QuietTactic
import Derived.IntWalk
namespace Go.Proofs.Ytmgllljilnkkcaa
open Go.RowKit
attribute [local go_sem ↓] Go.wp_at_zero Go.wp_at_succ

set_option maxHeartbeats 4000000 in
set_option maxRecDepth 20000 in
theorem lines_law {w : World} {v : Value} {l : List Int} (hv : IntsV w v l) (x : Int) :
    Calls Try.prog 6 #[v, .int .i64 x] w fun r w' => r = .returned (.bool true) ∧ Below w.heap.size w w' := by
  have hb : Below w.heap.size w w := Below.refl _ _
  generalize hl' : l.take 34 = l'
  have HL := Lib.hid hl'
  clear hl'
  go_enter Try.func6, Try.ntmps6
  go_wp2_with fail
  refine (shown_any).mono ?_
  rintro r w0 ⟨rfl, hb0⟩
  replace hv := hv.below hb0
  replace hb := hb.trans (hb0.mono hb.size)
  clear hb0
  go_wp2_with fail
  refine (cut_any hv).mono ?_
  rintro r w1 ⟨⟨vc, rfl, hc⟩, rfl⟩
  clear hv
  rw [HL.out] at hc
  have m1 := all_any hc
  clear HL
  cases hr : rightT l' with
  | false =>
    have e1 : allE l' = 70 := by unfold allE; rw [hr]; rfl
    have e2 : allL l' = [] := by unfold allL; rw [hr]; rfl
    rw [e1, e2] at m1
    clear e1 e2
    have m2 := fun (W : World) (h : IntsV W vc l') => right_any7 h
    rw [hr] at m2
    clear hr
    go_wp2_with fail
    refine m1.mono ?_
    rintro r w2 ⟨⟨v2, rfl, h2⟩, hb2⟩
    replace hc := hc.below hb2
    replace hb := hb.trans (hb2.mono hb.size)
    obtain ⟨a2, cap2, rfl⟩ := h2.slice
    have m3 := m2 w2 hc
    clear m1 hb2 m2 h2 hc
    go_wp2_with fail
    refine m3.mono ?_
    rintro r w3 ⟨rfl, rfl⟩
    clear m3
    go_wp2
    go_ret
    exact ⟨rfl, by first | exact hb | exact hb.drew⟩
  | true =>
    have e1 : allE l' = 0 := by unfold allE; rw [hr]; rfl
    rw [e1] at m1
    clear e1
    go_wp2_with fail
    refine m1.mono ?_
    rintro r w2 ⟨⟨v2, rfl, h2⟩, hb2⟩
    replace hc := hc.below hb2
    replace hb := hb.trans (hb2.mono hb.size)
    clear m1 hb2
    have hcnt := cntH_all hr x
    have hst := fun k => hole_step hr k
    have hmem := fun k => hole_mem (l := l') k
    have hlen := allL_len l'
    generalize allL l' = L at *
    have HCN := Lib.hid hcnt
    have HST := Lib.hid hst
    have HM := Lib.hid hmem
    clear hcnt hst hmem hr
    obtain ⟨a, cap, rfl⟩ := h2.slice
    have HC := Lib.hid h2
    clear h2
    go_wp2
    go_loopw [8, 9] (fun n i W => ∃ k : Nat, k ≤ L.length ∧ i = .int .i64 k ∧ n = .int .i64 (cntH x (L.take k)) ∧ Below w2.heap.size w2 W) (fun _ i _ => L.length - (intOf i).toNat)
    case atStart => exact ⟨0, Nat.zero_le _, rfl, rfl, Below.refl _ _⟩
    case round =>
      obtain ⟨k, hk, rfl, rfl, hB⟩ := hrel
      by_cases hlt : k < L.length
      · obtain ⟨b, rfl, c1⟩ := HC.out.at_ k hlt
        have d1 := (hB.cell (p := ⟨b, k * 2, none⟩) (cell_lt c1.1)).trans c1.1
        have d2 := (hB.cell (p := ⟨b, k * 2 + 1, none⟩) (cell_lt c1.2)).trans c1.2
        have hm := HM.out k hlt
        have hn := cntH_succ x hlt
        have hn0 := cntH_bd x (L.take k)
        have hn1 : (L.take k).length ≤ 33 := by simp; omega
        have hy : 0 < k → ∃ y : Int, wr.cell? ⟨b, (k - 1) * 2 + 1, none⟩ = some (.int .i64 y) ∧ y < ((L.getD k (0, 0)).1 : Int) := fun h0 => by
          obtain ⟨b', hb', c2⟩ := HC.out.at_ (k - 1) (by omega)
          obtain rfl : b = b' := by cases hb'; rfl
          refine ⟨_, (hB.cell (p := ⟨b, (k - 1) * 2 + 1, none⟩) (cell_lt c2.2)).trans c2.2, ?_⟩
          have := HST.out (k - 1) (by omega)
          rw [Nat.sub_add_cancel h0] at this
          omega
        unfold inB at hn
        generalize L.getD k (0, 0) = z at *
        obtain ⟨x1, x2⟩ := z
        simp only at hm hn d1 d2 hy
        obtain ⟨hm1, hm2⟩ := hm
        have g1 : decide ((x2 : Int) ≤ x1) = false := decide_eq_false (by omega)
        have g2 : decide ((x1 : Int) < 0) = false := decide_eq_false (by omega)
        have g3 : decide ((32 : Int) < x2) = false := decide_eq_false (by omega)
        have g1n : decide (x2 ≤ x1) = false := decide_eq_false (by omega)
        have g3n : decide (32 < x2) = false := decide_eq_false (by omega)
        clear c1
        generalize cntH x (L.take k) = n at *
        have HN := Lib.hid hn
        clear hn
        by_cases hA : (x1 : Int) ≤ x
        · by_cases hB2 : x < (x2 : Int)
          · rcases Nat.eq_zero_or_pos k with h0 | h0
            · have gA : decide ((x1 : Int) ≤ x) = true := decide_eq_true hA
              have gB : decide (x < (x2 : Int)) = true := decide_eq_true hB2
              have HN2 : Hid (cntH x (L.take (k + 1)) = n + 1) := Lib.hid (by rw [HN.out, decide_eq_true hA, decide_eq_true hB2]; simp)
              subst h0
              rw [show ((0 : Nat) : Int) = 0 from rfl]
              have g0 : decide ((0 : Int) < 0) = false := by decide
              have i1 : (0 : Int) < (L.length : Int) := by omega
              simp only [Nat.zero_mul, Nat.zero_add] at d1 d2
              clear hy HN hA hB2
              go_wp2
              go_quiet (fail)
              clear i1
              go_wp2
              go_round
              case rel => exact ⟨0 + 1, by omega, by go_num, by rw [HN2.out], by first | exact hB | exact hB.drew | exact below_drewN hB _⟩
              case measure => simp [intOf]; omega
            · obtain ⟨y, hy1, hy2⟩ := hy h0
              have g4 : decide ((x1 : Int) ≤ y) = false := decide_eq_false (by omega)
              have gA : decide ((x1 : Int) ≤ x) = true := decide_eq_true hA
              have gB : decide (x < (x2 : Int)) = true := decide_eq_true hB2
              have HN2 : Hid (cntH x (L.take (k + 1)) = n + 1) := Lib.hid (by rw [HN.out, decide_eq_true hA, decide_eq_true hB2]; simp)
              have g0 : decide ((0 : Int) < (k : Int)) = true := decide_eq_true (by omega)
              have i1 : (0 : Int) ≤ (k : Int) := by omega
              have i2 : (k : Int) < (L.length : Int) := by omega
              have i4 : (0 : Int) ≤ (k : Int) - 1 := by omega
              have i5 : (1 : Int) ≤ (k : Int) := by omega
              have i7 : (k : Int) - 1 < (L.length : Int) := by omega
              have i6 : ((k : Int) - 1).toNat = k - 1 := by omega
              have i3 : IntKind.i64.wrap ((k : Int) - 1) = (k : Int) - 1 := IntWalk.i64_in _ (by omega)
              clear HN hA hB2
              go_wp2
              go_quiet (fail)
              clear i1 i2 i4 i5 i7 i6 i3
              go_wp2
              go_round
              case rel => exact ⟨k + 1, by omega, by go_num, by rw [HN2.out], by first | exact hB | exact hB.drew | exact below_drewN hB _⟩
              case measure => simp [intOf]; omega
          · rcases Nat.eq_zero_or_pos k with h0 | h0
            · have gA : decide ((x1 : Int) ≤ x) = true := decide_eq_true hA
              have gB : decide (x < (x2 : Int)) = false := decide_eq_false (by omega)
              have HN2 : Hid (cntH x (L.take (k + 1)) = n) := Lib.hid (by rw [HN.out, decide_eq_true hA, decide_eq_false (show ¬ x < (x2 : Int) by omega)]; simp)
              subst h0
              rw [show ((0 : Nat) : Int) = 0 from rfl]
              have g0 : decide ((0 : Int) < 0) = false := by decide
              have i1 : (0 : Int) < (L.length : Int) := by omega
              simp only [Nat.zero_mul, Nat.zero_add] at d1 d2
              clear hy HN hA hB2
              go_wp2
              go_quiet (fail)
              clear i1
              go_wp2
              go_round
              case rel => exact ⟨0 + 1, by omega, by go_num, by rw [HN2.out], by first | exact hB | exact hB.drew | exact below_drewN hB _⟩
              case measure => simp [intOf]; omega
            · obtain ⟨y, hy1, hy2⟩ := hy h0
              have g4 : decide ((x1 : Int) ≤ y) = false := decide_eq_false (by omega)
              have gA : decide ((x1 : Int) ≤ x) = true := decide_eq_true hA
              have gB : decide (x < (x2 : Int)) = false := decide_eq_false (by omega)
              have HN2 : Hid (cntH x (L.take (k + 1)) = n) := Lib.hid (by rw [HN.out, decide_eq_true hA, decide_eq_false (show ¬ x < (x2 : Int) by omega)]; simp)
              have g0 : decide ((0 : Int) < (k : Int)) = true := decide_eq_true (by omega)
              have i1 : (0 : Int) ≤ (k : Int) := by omega
              have i2 : (k : Int) < (L.length : Int) := by omega
              have i4 : (0 : Int) ≤ (k : Int) - 1 := by omega
              have i5 : (1 : Int) ≤ (k : Int) := by omega
              have i7 : (k : Int) - 1 < (L.length : Int) := by omega
              have i6 : ((k : Int) - 1).toNat = k - 1 := by omega
              have i3 : IntKind.i64.wrap ((k : Int) - 1) = (k : Int) - 1 := IntWalk.i64_in _ (by omega)
              clear HN hA hB2
              go_wp2
              go_quiet (fail)
              clear i1 i2 i4 i5 i7 i6 i3
              go_wp2
              go_round
              case rel => exact ⟨k + 1, by omega, by go_num, by rw [HN2.out], by first | exact hB | exact hB.drew | exact below_drewN hB _⟩
              case measure => simp [intOf]; omega
        · rcases Nat.eq_zero_or_pos k with h0 | h0
          · have gA : decide ((x1 : Int) ≤ x) = false := decide_eq_false (by omega)
            have HN2 : Hid (cntH x (L.take (k + 1)) = n) := Lib.hid (by rw [HN.out, decide_eq_false (show ¬ (x1 : Int) ≤ x by omega)]; simp)
            subst h0
            rw [show ((0 : Nat) : Int) = 0 from rfl]
            have g0 : decide ((0 : Int) < 0) = false := by decide
            have i1 : (0 : Int) < (L.length : Int) := by omega
            simp only [Nat.zero_mul, Nat.zero_add] at d1 d2
            clear hy HN hA
            go_wp2
            go_quiet (fail)
            clear i1
            go_wp2
            go_round
            case rel => exact ⟨0 + 1, by omega, by go_num, by rw [HN2.out], by first | exact hB | exact hB.drew | exact below_drewN hB _⟩
            case measure => simp [intOf]; omega
          · obtain ⟨y, hy1, hy2⟩ := hy h0
            have g4 : decide ((x1 : Int) ≤ y) = false := decide_eq_false (by omega)
            have gA : decide ((x1 : Int) ≤ x) = false := decide_eq_false (by omega)
            have HN2 : Hid (cntH x (L.take (k + 1)) = n) := Lib.hid (by rw [HN.out, decide_eq_false (show ¬ (x1 : Int) ≤ x by omega)]; simp)
            have g0 : decide ((0 : Int) < (k : Int)) = true := decide_eq_true (by omega)
            have i1 : (0 : Int) ≤ (k : Int) := by omega
            have i2 : (k : Int) < (L.length : Int) := by omega
            have i4 : (0 : Int) ≤ (k : Int) - 1 := by omega
            have i5 : (1 : Int) ≤ (k : Int) := by omega
            have i7 : (k : Int) - 1 < (L.length : Int) := by omega
            have i6 : ((k : Int) - 1).toNat = k - 1 := by omega
            have i3 : IntKind.i64.wrap ((k : Int) - 1) = (k : Int) - 1 := IntWalk.i64_in _ (by omega)
            clear HN hA
            go_wp2
            go_quiet (fail)
            clear i1 i2 i4 i5 i7 i6 i3
            go_wp2
            go_round
            case rel => exact ⟨k + 1, by omega, by go_num, by rw [HN2.out], by first | exact hB | exact hB.drew | exact below_drewN hB _⟩
            case measure => simp [intOf]; omega
      · obtain rfl : k = L.length := by omega
        rw [List.take_length, HCN.out]
        have hb' := hb.trans (hB.mono hb.size)
        by_cases h0 : 0 ≤ x
        · have e0 : decide (0 ≤ x) = true := decide_eq_true h0
          by_cases h1 : x < 32
          · have e1 : decide (x < 32) = true := decide_eq_true h1
            have m1 := kept_any7 (hc.below hB) x
            change Calls _ _ _ _ fun r w' => r = .returned (.bool (keptI l' x)) ∧ _ at m1
            cases hk : keptI l' x with
            | true =>
              rw [hk] at m1
              have e2 : (bif decide (0 ≤ x) && (decide (x < 32) && !true) then (1 : Int) else 0) = 0 := by rw [e0, e1]; rfl
              rw [e2]
              clear e2 hk h0 h1
              go_wp2_with fail
              refine m1.mono ?_
              rintro r w3 ⟨rfl, hb3⟩
              have hb4 := hb'.trans (hb3.mono hb'.size)
              clear m1 hb3 hB
              go_wp2
              go_ret
              exact ⟨rfl, hb4⟩
            | false =>
              rw [hk] at m1
              have e2 : (bif decide (0 ≤ x) && (decide (x < 32) && !false) then (1 : Int) else 0) = 1 := by rw [e0, e1]; rfl
              rw [e2]
              clear e2 hk h0 h1
              go_wp2_with fail
              refine m1.mono ?_
              rintro r w3 ⟨rfl, hb3⟩
              have hb4 := hb'.trans (hb3.mono hb'.size)
              clear m1 hb3 hB
              go_wp2
              go_ret
              exact ⟨rfl, hb4⟩
          · have e1 : decide (x < 32) = false := decide_eq_false (by omega)
            have e2 : (bif decide (0 ≤ x) && (decide (x < 32) && !keptI l' x) then (1 : Int) else 0) = 0 := by rw [e0, e1]; rfl
            rw [e2]
            clear e2 h0 h1
            go_wp2
            go_ret
            exact ⟨rfl, hb'⟩
        · have e0 : decide (0 ≤ x) = false := decide_eq_false (by omega)
          have e2 : (bif decide (0 ≤ x) && (decide (x < 32) && !keptI l' x) then (1 : Int) else 0) = 0 := by rw [e0]; rfl
          rw [e2]
          clear e2 h0
          go_wp2
          go_ret
          exact ⟨rfl, hb'⟩
end Go.Proofs.Ytmgllljilnkkcaa

namespace Go.Proofs.Ytmgllljilnkkcaa.lawHoleLines
open Go.ChangeShapes Go.WideShapes Go.ChangeAt Go.RowKit
theorem own : ownKnob Try.prog.godebug = none := by kernel_rfl
set_option maxHeartbeats 800000 in
set_option maxRecDepth 100000 in
theorem lifted (os : Os) (started : os.Started) (H : Type) (enc : TypeId × Value → H) :
    ReturnsInHanded {} Try.checked os 6 .any (Rows.holeLinesSpec.pre6 enc Try.prog Try.f6 Rows.holeLinesRow.domain false) (Rows.holeLinesSpec.post enc Try.prog Try.f6 false true false false) := by
  refine returnsInHanded_of_change_sized (C := Try.checked) own started (by kernel_rfl) Try.func6
    (ChangeSpec.witness6 (enc := enc) (C := Try.checked) false ⟨#[], #[.slice none 0 0, .int .i64 0], []⟩ 8 (by kernel_rfl) (by kernel_rfl) (by kernel_rfl) (by kernel_rfl)) ?_
  intro W base args ds gs before hval0 hW _ _ _
  have hval : ∀ (j : Nat) t v, Try.f6.params[j]? = some t → args[j]? = some v → Value.okWide Try.prog W .any base t v := hval0
  have hW' := hW
  obtain ⟨p, q, hA0, hV, rfl, _, _⟩ := hW
  have hA : DataW.TrodAll enc Try.prog W 0 (fun _ => true) true Try.f6.params.toList args.toList ds p := hA0
  rw [Try.params6] at hA hval
  obtain ⟨v0, vs0, d0, ds0, p0, q0, hargs, rfl, rfl, h0, r0⟩ := trodAll_cons hA
  obtain ⟨v1, vs1, d1, ds1, p1, q1, rfl, rfl, rfl, h1, r1⟩ := trodAll_cons r0
  obtain ⟨rfl, rfl, rfl⟩ := trodAll_nil r1
  obtain rfl : args = #[v0, v1] := by cases args; simp_all
  obtain ⟨rfl, rfl⟩ := trodVars_none hV
  have k0 := h0
  have k1 := h1
  obtain ⟨l0, i0⟩ := ints_open (hval 0 22 v0 rfl rfl) h0
  obtain ⟨x1, rfl, rfl, rfl, wx1⟩ := open_int Try.underlying3 (hval 1 3 v1 rfl rfl) h1
  clear hA0 hval0
  simp only [List.append_nil] at hW'
  refine (lines_law i0 x1).mono fun e W' ⟨he, hb⟩ => ?_
  subst he
  have hlt := hW'.lt
  have harg0 := Below.trod laidOut (by kernel_rfl) (of_decide_eq_true (by kernel_rfl)) k0 hb (fun y hy => by first | (cases hy; done) | (simpa using hlt y (by simp [hy])))
  have harg1 := Below.trod laidOut (by kernel_rfl) (of_decide_eq_true (by kernel_rfl)) k1 hb (fun y hy => by first | (cases hy; done) | (simpa using hlt y (by simp [hy])))
  exact ⟨_, rfl, _, _, _, [], _, [], hW', trodAll_cons_mk (shut_bool Try.underlying4 _) trodAll_mk0, (trodAll_cons_mk harg0 (trodAll_cons_mk harg1 trodAll_mk0)), rfl, hb.frame _, fun h => by cases h⟩

theorem said : Rows.HoleLinesSaid :=
  OpenClaim.holds_of_wide 6 Try.f6 rfl rfl rfl rfl rfl rfl rfl ⟨rfl, rfl, rfl, rfl, rfl⟩ rfl rfl rfl rfl rfl (by kernel_rfl) Try.func6 (by kernel_rfl)
    (of_decide_eq_true (by kernel_rfl)) (by unfold Func.isWrapper; first | (rw [if_pos (by decide +kernel)]; kernel_rfl) | (rw [if_neg (by decide +kernel)]; exact ⟨rfl, rfl⟩))
    (fun os started H enc _ => lifted os started H enc)
end Go.Proofs.Ytmgllljilnkkcaa.lawHoleLines

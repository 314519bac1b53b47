/- HoleWalks holds of every list: the law's own text walked, and the statement. -/
import Derived.Test.YtmgllljilnkkcaaQ8
import Derived.Test.YtmgllljilnkkcaaOp
import Derived.Test.YtmgllljilnkkcaaRows
namespace Go.Proofs.Ytmgllljilnkkcaa
open Go.RowKit
attribute [local go_sem ↓] Go.wp_at_zero Go.wp_at_succ

set_option maxHeartbeats 1000000 in
set_option maxRecDepth 20000 in
theorem walks_law {w : World} {v : Value} {l : List Int} (hv : IntsV w v l) :
    Calls Try.prog 4 #[v] w fun r w' => r = .returned (.bool true) ∧ Below w.heap.size w w' := by
  have hb : Below w.heap.size w w := Below.refl _ _
  generalize hl' : l.take 34 = l'
  have HL := Lib.hid hl'
  clear hl'
  go_enter Try.func4, Try.ntmps4
  go_wp2_with fail
  refine (shown_any).mono ?_
  rintro r w0 ⟨rfl, hb0⟩
  replace hv := hv.below hb0
  replace hb := hb.trans (hb0.mono hb.size)
  clear hb0
  go_wp2_with fail
  refine (cut_any hv).mono ?_
  rintro r w1 ⟨⟨vc, rfl, hc⟩, rfl⟩
  clear hv
  rw [HL.out] at hc
  have m1 := all_any hc
  go_wp2_with fail
  refine m1.mono ?_
  rintro r w2 ⟨⟨v2, rfl, h2⟩, hb2⟩
  replace hc := hc.below hb2
  replace hb := hb.trans (hb2.mono hb.size)
  clear m1 hb2 HL
  generalize allE l' = e1
  have N := fun k => next_walk l' k
  have hlen := allL_len l'
  generalize allL l' = L at *
  have HN := Lib.hid N
  clear N
  cases h2 with
  | empty a cap =>
    have m1 := next_any hc ((0 : Nat) : Int)
    have e := HN.out 0 (Nat.le_refl _)
    rw [fromW_zero] at e
    rw [show nextO l' ((0 : Nat) : Int) = none from e] at m1
    clear e
    change Calls _ _ #[vc, .int .i64 0] w2 fun r w' => r = .returned (.tuple #[.agg #[.int .i64 0, .int .i64 0], .bool false]) ∧ _ at m1
    go_wp2
    refine wp_loop_rounds 1 ?_
    rw [rounds_succ]
    go_wp2_with fail
    refine (m1).mono ?_
    rintro r w3 ⟨rfl, hb3⟩
    replace hb := hb.trans (hb3.mono hb.size)
    clear hb3
    go_wp2
    go_ret
    exact ⟨rfl, by first | exact hb | exact hb.alloc hb.size _⟩
  | some b cap L hl hm hcc =>
    have HC := Lib.hid hcc
    clear hcc
    go_wp2
    go_loopw [6, 7] (fun f i W => ∃ k : Nat, k ≤ L.length ∧ i = .int .i64 k ∧ f = .int .i64 (fromW L k : Nat) ∧ Below w2.heap.size w2 W) (fun _ i _ => L.length - (intOf i).toNat)
    case atStart => exact ⟨0, Nat.zero_le _, rfl, by rw [fromW_zero]; rfl, Below.refl _ _⟩
    case round =>
      obtain ⟨k, hk, rfl, rfl, hB⟩ := hrel
      have m1 := next_any (hc.below hB) (fromW L k : Nat)
      rw [HN.out k hk] at m1
      by_cases hlt : k < L.length
      · have e : L.getD k (0, 0) = L[k] := by simp [List.getD, hlt]
        have c1 := HC.out k hlt
        have e2 := fromW_succ L k
        rw [e] at c1 e2
        rw [List.getElem?_eq_getElem hlt] at m1
        generalize L[k] = x at *
        obtain ⟨x1, x2⟩ := x
        clear e
        have d1 := (hB.cell (p := ⟨b, k * 2, none⟩) (cell_lt c1.1)).trans c1.1
        have d2 := (hB.cell (p := ⟨b, k * 2 + 1, none⟩) (cell_lt c1.2)).trans c1.2
        simp only at d1 d2 e2
        change Calls _ _ #[vc, .int .i64 (fromW L k : Nat)] wr fun r w' => r = .returned (.tuple #[.agg #[.int .i64 (x1 : Int), .int .i64 (x2 : Int)], .bool true]) ∧ _ at m1
        have E2 := Lib.hid e2
        clear e2 c1
        generalize fromW L k = f at m1 ⊢
        go_wp2_with fail
        refine m1.mono ?_
        rintro r w3 ⟨rfl, hb3⟩
        obtain ⟨w4, hw4, e0, e1, b4⟩ := allocs1 w3 (.cells #[.int .i64 (x1 : Int), .int .i64 (x2 : Int)] 30)
        have bb := hb3.trans (e0.mono hb3.size)
        replace d1 := (bb.cell (p := ⟨b, k * 2, none⟩) (cell_lt d1)).trans d1
        replace d2 := (bb.cell (p := ⟨b, k * 2 + 1, none⟩) (cell_lt d2)).trans d2
        have hB4 := hB.trans (bb.mono hB.size)
        have c0 := cells_cell (i := 0) b4 (v := .int .i64 (x1 : Int)) rfl
        have c1 := cells_cell (i := 1) b4 (v := .int .i64 (x2 : Int)) rfl
        have he : ∀ w, (Op.equalIn 10000 30 (.agg #[.int .i64 (x1 : Int), .int .i64 (x2 : Int)]) (.agg #[.int .i64 (x1 : Int), .int .i64 (x2 : Int)])).run Try.prog w = .ok true w := fun w => by rw [run_eq_hole]; simp
        clear m1 bb e0 e1 b4 hb3 hB
        go_wp2
        first | go_region | skip
        go_wp2
        go_round
        case rel => exact ⟨k + 1, by omega, by go_num, by rw [E2.out], by first | exact hB4 | exact hB4.drew⟩
        case measure => simp [intOf]; omega
      · obtain rfl : k = L.length := by omega
        rw [List.getElem?_eq_none (Nat.le_refl _)] at m1
        change Calls _ _ #[vc, .int .i64 (fromW L L.length : Nat)] wr fun r w' => r = .returned (.tuple #[.agg #[.int .i64 0, .int .i64 0], .bool false]) ∧ _ at m1
        generalize fromW L L.length = f at m1 ⊢
        have hb' := hb.trans (hB.mono hb.size)
        go_wp2_with fail
        refine m1.mono ?_
        rintro r w3 ⟨rfl, hb3⟩
        replace hb' := hb'.trans (hb3.mono hb'.size)
        clear m1 hb3 hB
        go_wp2
        go_ret
        exact ⟨rfl, by first | exact hb' | exact hb'.alloc hb'.size _⟩
end Go.Proofs.Ytmgllljilnkkcaa

namespace Go.Proofs.Ytmgllljilnkkcaa.lawHoleWalks
open Go.ChangeShapes Go.WideShapes Go.ChangeAt Go.RowKit
theorem own : ownKnob Try.prog.godebug = none := by kernel_rfl
set_option maxHeartbeats 800000 in
set_option maxRecDepth 100000 in
theorem lifted (os : Os) (started : os.Started) (H : Type) (enc : TypeId × Value → H) :
    ReturnsInHanded {} Try.checked os 4 .any (Rows.holeWalksSpec.pre6 enc Try.prog Try.f4 Rows.holeWalksRow.domain false) (Rows.holeWalksSpec.post enc Try.prog Try.f4 false true false false) := by
  refine returnsInHanded_of_change_sized (C := Try.checked) own started (by kernel_rfl) Try.func4
    (ChangeSpec.witness6 (enc := enc) (C := Try.checked) false ⟨#[], #[.slice none 0 0], []⟩ 8 (by kernel_rfl) (by kernel_rfl) (by kernel_rfl) (by kernel_rfl)) ?_
  intro W base args ds gs before hval0 hW _ _ _
  have hval : ∀ (j : Nat) t v, Try.f4.params[j]? = some t → args[j]? = some v → Value.okWide Try.prog W .any base t v := hval0
  have hW' := hW
  obtain ⟨p, q, hA0, hV, rfl, _, _⟩ := hW
  have hA : DataW.TrodAll enc Try.prog W 0 (fun _ => true) true Try.f4.params.toList args.toList ds p := hA0
  rw [Try.params4] at hA hval
  obtain ⟨v0, vs0, d0, ds0, p0, q0, hargs, rfl, rfl, h0, r0⟩ := trodAll_cons hA
  obtain ⟨rfl, rfl, rfl⟩ := trodAll_nil r0
  obtain rfl : args = #[v0] := by cases args; simp_all
  obtain ⟨rfl, rfl⟩ := trodVars_none hV
  have k0 := h0
  obtain ⟨l0, i0⟩ := ints_open (hval 0 22 v0 rfl rfl) h0
  clear hA0 hval0
  simp only [List.append_nil] at hW'
  refine (walks_law i0).mono fun e W' ⟨he, hb⟩ => ?_
  subst he
  have hlt := hW'.lt
  have harg0 := Below.trod laidOut (by kernel_rfl) (of_decide_eq_true (by kernel_rfl)) k0 hb (fun y hy => by first | (cases hy; done) | (simpa using hlt y (by simp [hy])))
  exact ⟨_, rfl, _, _, _, [], _, [], hW', trodAll_cons_mk (shut_bool Try.underlying4 _) trodAll_mk0, (trodAll_cons_mk harg0 trodAll_mk0), rfl, hb.frame _, fun h => by cases h⟩

theorem said : Rows.HoleWalksSaid :=
  OpenClaim.holds_of_wide 4 Try.f4 rfl rfl rfl rfl rfl rfl rfl ⟨rfl, rfl, rfl, rfl, rfl⟩ rfl rfl rfl rfl rfl (by kernel_rfl) Try.func4 (by kernel_rfl)
    (of_decide_eq_true (by kernel_rfl)) (by unfold Func.isWrapper; first | (rw [if_pos (by decide +kernel)]; kernel_rfl) | (rw [if_neg (by decide +kernel)]; exact ⟨rfl, rfl⟩))
    (fun os started H enc _ => lifted os started H enc)
end Go.Proofs.Ytmgllljilnkkcaa.lawHoleWalks

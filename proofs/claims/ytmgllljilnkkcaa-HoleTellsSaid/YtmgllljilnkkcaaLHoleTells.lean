/- HoleTells holds of every list, every line and every number: the law's own text walked, and the statement. -/
import Derived.Test.YtmgllljilnkkcaaR8b
import Derived.Test.YtmgllljilnkkcaaS8
import Derived.Test.YtmgllljilnkkcaaOp
import Derived.Test.YtmgllljilnkkcaaRows
namespace Go.Proofs.Ytmgllljilnkkcaa
open Go.RowKit
attribute [local go_sem ↓] Go.wp_at_zero Go.wp_at_succ

theorem roomE_eq (l : List Int) : (bif rightT l then 32 - ((linesI l).length : Int) else 0) = roomE l := by
  cases hr : rightT l with
  | false => unfold roomE; rw [hr]; rfl
  | true =>
    have := room_count hr
    have e : roomE l = roomH (allL l) := by unfold roomE allL; rw [hr]; rfl
    rw [e, this]
    rfl

set_option maxHeartbeats 4000000 in
set_option maxRecDepth 100000 in
theorem tells_law {w : World} {v : Value} {l : List Int} (hv : IntsV w v l) (x n : Int) :
    Calls Try.prog 3 #[v, .int .i64 x, .int .i64 n] w fun r w' => r = .returned (.bool true) ∧ Below w.heap.size w w' := by
  have hb : Below w.heap.size w w := Below.refl _ _
  generalize hl' : l.take 34 = l'
  have HL := Lib.hid hl'
  clear hl'
  go_enter Try.func3, Try.ntmps3
  go_wp2_with fail
  refine (shown_any).mono ?_
  rintro r w0 ⟨rfl, hb0⟩
  replace hv := hv.below hb0
  replace hb := hb.trans (hb0.mono hb.size)
  clear hb0
  go_wp2_with fail
  refine (cut_any hv).mono ?_
  rintro r w1 ⟨⟨vc, rfl, hc⟩, rfl⟩
  clear hv
  rw [HL.out] at hc
  clear HL
  have m1 := all_any hc
  go_wp2_with fail
  refine (m1).mono ?_
  rintro r w1 ⟨⟨v1, rfl, h1⟩, hb1⟩
  replace hc := hc.below hb1
  replace hb := hb.trans (hb1.mono hb.size)
  clear hb1
  clear m1
  have m1 := refAll_any hc
  go_wp2_with fail
  refine (m1).mono ?_
  rintro r w2 ⟨⟨v2, rfl, h2⟩, hb2⟩
  replace hc := hc.below hb2
  replace h1 := h1.below hb2
  replace hb := hb.trans (hb2.mono hb.size)
  clear hb2
  clear m1
  obtain ⟨e1, he1⟩ : ∃ e1, allE l' = e1 := ⟨_, rfl⟩
  rw [he1]
  have HE := Lib.hid he1
  obtain ⟨y1, y2, hy⟩ := encH_agg (nextO l' x)
  obtain ⟨ok1, hok1⟩ : ∃ ok, (nextO l' x).isSome = ok := ⟨_, rfl⟩
  rw [hok1] at hy
  have HY := Lib.hid hy
  obtain ⟨z1, z2, hz⟩ := encH_agg (fitsO l' n)
  obtain ⟨ok2, hok2⟩ : ∃ ok, (fitsO l' n).isSome = ok := ⟨_, rfl⟩
  rw [hok2] at hz
  have HZ := Lib.hid hz
  clear he1 hy hok1 hz hok2
  have m1 := next_any hc x
  rw [HY.out] at m1
  go_wp2_with fail
  refine m1.mono ?_
  rintro r u3 ⟨rfl, hb3⟩
  obtain ⟨w3, hw3, e0, e9, b3⟩ := allocs1 u3 (.cells #[.int .i64 (y1 : Int), .int .i64 (y2 : Int)] 30)
  have hbb := hb3.trans (e0.mono hb3.size)
  replace hc := hc.below hbb
  replace h1 := h1.below hbb
  replace h2 := h2.below hbb
  replace hb := hb.trans (hbb.mono hb.size)
  clear m1 hb3 e0 e9 hbb
  have m1 := refNext_any hc x
  rw [HY.out] at m1
  go_wp2_with fail
  refine m1.mono ?_
  rintro r u4 ⟨rfl, hb3⟩
  obtain ⟨w4, hw4, e0, e9, b4⟩ := allocs1 u4 (.cells #[.int .i64 (y1 : Int), .int .i64 (y2 : Int)] 30)
  have hbb := hb3.trans (e0.mono hb3.size)
  replace hc := hc.below hbb
  replace h1 := h1.below hbb
  replace h2 := h2.below hbb
  replace b3 := (hbb.block _ (block_lt b3)).trans b3
  replace hb := hb.trans (hbb.mono hb.size)
  clear m1 hb3 e0 e9 hbb
  have m1 := fits_any hc n
  rw [HZ.out] at m1
  go_wp2_with fail
  refine m1.mono ?_
  rintro r u5 ⟨rfl, hb3⟩
  obtain ⟨w5, hw5, e0, e9, b5⟩ := allocs1 u5 (.cells #[.int .i64 (z1 : Int), .int .i64 (z2 : Int)] 30)
  have hbb := hb3.trans (e0.mono hb3.size)
  replace hc := hc.below hbb
  replace h1 := h1.below hbb
  replace h2 := h2.below hbb
  replace b3 := (hbb.block _ (block_lt b3)).trans b3
  replace b4 := (hbb.block _ (block_lt b4)).trans b4
  replace hb := hb.trans (hbb.mono hb.size)
  clear m1 hb3 e0 e9 hbb
  have m1 := refFits_any hc n
  rw [HZ.out] at m1
  go_wp2_with fail
  refine m1.mono ?_
  rintro r u6 ⟨rfl, hb3⟩
  obtain ⟨w6, hw6, e0, e9, b6⟩ := allocs1 u6 (.cells #[.int .i64 (z1 : Int), .int .i64 (z2 : Int)] 30)
  have hbb := hb3.trans (e0.mono hb3.size)
  replace hc := hc.below hbb
  replace h1 := h1.below hbb
  replace h2 := h2.below hbb
  replace b3 := (hbb.block _ (block_lt b3)).trans b3
  replace b4 := (hbb.block _ (block_lt b4)).trans b4
  replace b5 := (hbb.block _ (block_lt b5)).trans b5
  replace hb := hb.trans (hbb.mono hb.size)
  clear m1 hb3 e0 e9 hbb
  have m1 := lengths_any hc
  rw [HE.out] at m1
  go_wp2_with fail
  refine m1.mono ?_
  rintro r w7 ⟨⟨v7, rfl, h7⟩, hbb⟩
  replace hc := hc.below hbb
  replace h1 := h1.below hbb
  replace h2 := h2.below hbb
  replace b3 := (hbb.block _ (block_lt b3)).trans b3
  replace b4 := (hbb.block _ (block_lt b4)).trans b4
  replace b5 := (hbb.block _ (block_lt b5)).trans b5
  replace b6 := (hbb.block _ (block_lt b6)).trans b6
  replace hb := hb.trans (hbb.mono hb.size)
  clear m1 hbb
  have m1 := refLengths_any hc
  rw [HE.out] at m1
  go_wp2_with fail
  refine m1.mono ?_
  rintro r w8 ⟨⟨v8, rfl, h8⟩, hbb⟩
  replace hc := hc.below hbb
  replace h1 := h1.below hbb
  replace h2 := h2.below hbb
  replace h7 := h7.below hbb
  replace b3 := (hbb.block _ (block_lt b3)).trans b3
  replace b4 := (hbb.block _ (block_lt b4)).trans b4
  replace b5 := (hbb.block _ (block_lt b5)).trans b5
  replace b6 := (hbb.block _ (block_lt b6)).trans b6
  replace hb := hb.trans (hbb.mono hb.size)
  clear m1 hbb
  clear hw3 hw4 hw5 hw6
  have m1 := same_any h1 h2
  rw [decide_eq_true rfl] at m1
  go_wp2_with fail
  refine m1.mono ?_
  rintro r w9 ⟨rfl, hbb⟩
  replace hc := hc.below hbb
  replace h7 := h7.below hbb
  replace h8 := h8.below hbb
  replace b3 := (hbb.block _ (block_lt b3)).trans b3
  replace b4 := (hbb.block _ (block_lt b4)).trans b4
  replace b5 := (hbb.block _ (block_lt b5)).trans b5
  replace b6 := (hbb.block _ (block_lt b6)).trans b6
  replace hb := hb.trans (hbb.mono hb.size)
  clear m1 hbb
  have c3 := cells_cell (i := 0) b3 (v := .int .i64 (y1 : Int)) rfl
  have d3 := cells_cell (i := 1) b3 (v := .int .i64 (y2 : Int)) rfl
  have c4 := cells_cell (i := 0) b4 (v := .int .i64 (y1 : Int)) rfl
  have d4 := cells_cell (i := 1) b4 (v := .int .i64 (y2 : Int)) rfl
  have c5 := cells_cell (i := 0) b5 (v := .int .i64 (z1 : Int)) rfl
  have d5 := cells_cell (i := 1) b5 (v := .int .i64 (z2 : Int)) rfl
  have c6 := cells_cell (i := 0) b6 (v := .int .i64 (z1 : Int)) rfl
  have d6 := cells_cell (i := 1) b6 (v := .int .i64 (z2 : Int)) rfl
  have qy : ∀ w, (Op.equalIn 10000 30 (.agg #[.int .i64 (y1 : Int), .int .i64 (y2 : Int)]) (.agg #[.int .i64 (y1 : Int), .int .i64 (y2 : Int)])).run Try.prog w = .ok true w := fun w => by rw [run_eq_hole]; simp
  have qz : ∀ w, (Op.equalIn 10000 30 (.agg #[.int .i64 (z1 : Int), .int .i64 (z2 : Int)]) (.agg #[.int .i64 (z1 : Int), .int .i64 (z2 : Int)])).run Try.prog w = .ok true w := fun w => by rw [run_eq_hole]; simp
  clear b3 b4 b5 b6 h1 h2
  have m1 := room_any hc
  go_wp2_with fail
  refine m1.mono ?_
  rintro r w10 ⟨rfl, hbb⟩
  replace hc := hc.below hbb
  replace h7 := h7.below hbb
  replace h8 := h8.below hbb
  replace hb := hb.trans (hbb.mono hb.size)
  clear m1 hbb
  clear c3 c4 c5 c6 d3 d4 d5 d6 qy qz
  have m1 := refRoom_any hc
  rw [roomE_eq] at m1
  go_wp2_with fail
  refine m1.mono ?_
  rintro r w11 ⟨rfl, hbb⟩
  replace hc := hc.below hbb
  replace h7 := h7.below hbb
  replace h8 := h8.below hbb
  replace hb := hb.trans (hbb.mono hb.size)
  clear m1 hbb
  have m1 := longest_any hc
  go_wp2_with fail
  refine m1.mono ?_
  rintro r w12 ⟨rfl, hbb⟩
  replace hc := hc.below hbb
  replace h7 := h7.below hbb
  replace h8 := h8.below hbb
  replace hb := hb.trans (hbb.mono hb.size)
  clear m1 hbb
  have m1 := refLongest_any hc
  go_wp2_with fail
  refine m1.mono ?_
  rintro r w13 ⟨rfl, hbb⟩
  replace hc := hc.below hbb
  replace h7 := h7.below hbb
  replace h8 := h8.below hbb
  replace hb := hb.trans (hbb.mono hb.size)
  clear m1 hbb
  have m1 := ints_any h7 h8
  rw [decide_eq_true rfl] at m1
  go_wp2_with fail
  refine m1.mono ?_
  rintro r w14 ⟨rfl, hbb⟩
  replace hb := hb.trans (hbb.mono hb.size)
  clear m1 hbb
  go_wp2
  go_ret
  exact ⟨by first | rfl | simp, hb⟩
end Go.Proofs.Ytmgllljilnkkcaa

namespace Go.Proofs.Ytmgllljilnkkcaa.lawHoleTells
open Go.ChangeShapes Go.WideShapes Go.ChangeAt Go.RowKit
theorem own : ownKnob Try.prog.godebug = none := by kernel_rfl
set_option maxHeartbeats 800000 in
set_option maxRecDepth 100000 in
theorem lifted (os : Os) (started : os.Started) (H : Type) (enc : TypeId × Value → H) :
    ReturnsInHanded {} Try.checked os 3 .any (Rows.holeTellsSpec.pre6 enc Try.prog Try.f3 Rows.holeTellsRow.domain false) (Rows.holeTellsSpec.post enc Try.prog Try.f3 false true false false) := by
  refine returnsInHanded_of_change_sized (C := Try.checked) own started (by kernel_rfl) Try.func3
    (ChangeSpec.witness6 (enc := enc) (C := Try.checked) false ⟨#[], #[.slice none 0 0, .int .i64 0, .int .i64 0], []⟩ 8 (by kernel_rfl) (by kernel_rfl) (by kernel_rfl) (by kernel_rfl)) ?_
  intro W base args ds gs before hval0 hW _ _ _
  have hval : ∀ (j : Nat) t v, Try.f3.params[j]? = some t → args[j]? = some v → Value.okWide Try.prog W .any base t v := hval0
  have hW' := hW
  obtain ⟨p, q, hA0, hV, rfl, _, _⟩ := hW
  have hA : DataW.TrodAll enc Try.prog W 0 (fun _ => true) true Try.f3.params.toList args.toList ds p := hA0
  rw [Try.params3] at hA hval
  obtain ⟨v0, vs0, d0, ds0, p0, q0, hargs, rfl, rfl, h0, r0⟩ := trodAll_cons hA
  obtain ⟨v1, vs1, d1, ds1, p1, q1, rfl, rfl, rfl, h1, r1⟩ := trodAll_cons r0
  obtain ⟨v2, vs2, d2, ds2, p2, q2, rfl, rfl, rfl, h2, r2⟩ := trodAll_cons r1
  obtain ⟨rfl, rfl, rfl⟩ := trodAll_nil r2
  obtain rfl : args = #[v0, v1, v2] := by cases args; simp_all
  obtain ⟨rfl, rfl⟩ := trodVars_none hV
  have k0 := h0
  have k1 := h1
  have k2 := h2
  obtain ⟨l0, i0⟩ := ints_open (hval 0 22 v0 rfl rfl) h0
  obtain ⟨x1, rfl, rfl, rfl, wx1⟩ := open_int Try.underlying3 (hval 1 3 v1 rfl rfl) h1
  obtain ⟨x2, rfl, rfl, rfl, wx2⟩ := open_int Try.underlying3 (hval 2 3 v2 rfl rfl) h2
  clear hA0 hval0
  simp only [List.append_nil] at hW'
  refine (tells_law i0 x1 x2).mono fun e W' ⟨he, hb⟩ => ?_
  subst he
  have hlt := hW'.lt
  have harg0 := Below.trod laidOut (by kernel_rfl) (of_decide_eq_true (by kernel_rfl)) k0 hb (fun y hy => by first | (cases hy; done) | (simpa using hlt y (by simp [hy])))
  have harg1 := Below.trod laidOut (by kernel_rfl) (of_decide_eq_true (by kernel_rfl)) k1 hb (fun y hy => by first | (cases hy; done) | (simpa using hlt y (by simp [hy])))
  have harg2 := Below.trod laidOut (by kernel_rfl) (of_decide_eq_true (by kernel_rfl)) k2 hb (fun y hy => by first | (cases hy; done) | (simpa using hlt y (by simp [hy])))
  exact ⟨_, rfl, _, _, _, [], _, [], hW', trodAll_cons_mk (shut_bool Try.underlying4 _) trodAll_mk0, (trodAll_cons_mk harg0 (trodAll_cons_mk harg1 (trodAll_cons_mk harg2 trodAll_mk0))), rfl, hb.frame _, fun h => by cases h⟩

theorem said : Rows.HoleTellsSaid :=
  OpenClaim.holds_of_wide 3 Try.f3 rfl rfl rfl rfl rfl rfl rfl ⟨rfl, rfl, rfl, rfl, rfl⟩ rfl rfl rfl rfl rfl (by kernel_rfl) Try.func3 (by kernel_rfl)
    (of_decide_eq_true (by kernel_rfl)) (by unfold Func.isWrapper; first | (rw [if_pos (by decide +kernel)]; kernel_rfl) | (rw [if_neg (by decide +kernel)]; exact ⟨rfl, rfl⟩))
    (fun os started H enc _ => lifted os started H enc)
end Go.Proofs.Ytmgllljilnkkcaa.lawHoleTells

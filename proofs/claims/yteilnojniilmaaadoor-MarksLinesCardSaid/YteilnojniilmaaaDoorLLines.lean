/- MarksLines holds of every list and every line: the law's own text walked, and the card. -/
import Derived.Test.YteilnojniilmaaaDoorM8
import Derived.Test.YteilnojniilmaaaDoorOp
import Derived.Test.YteilnojniilmaaaDoorG7
import Derived.Test.YteilnojniilmaaaDoorCards
import Derived.Test.YteilnojniilmaaaDoorTie
namespace Go.Proofs.YteilnojniilmaaaDoor
open Go.RowKit
attribute [local go_sem ↓] Go.wp_at_zero Go.wp_at_succ

theorem linesI_right {l : List Int} (h : rightT l = true) : linesI l = (linesT l).map fun n : Nat => (n : Int) := by unfold linesI; rw [h]; rfl
theorem linesI_wrong {l : List Int} (h : rightT l = false) : linesI l = [] := by unfold linesI; rw [h]; rfl

theorem linesT_sorted (l : List Int) : (linesT l).Pairwise (· < ·) := List.Pairwise.filter _ (List.pairwise_lt_range)
theorem linesI_lt (l : List Int) (i j : Nat) (hij : i < j) (hj : j < (linesI l).length) : (linesI l).getD i 0 < (linesI l).getD j 0 := by
  cases hr : rightT l with
  | false => rw [linesI_wrong hr] at hj; simp at hj
  | true =>
    rw [linesI_right hr] at hj ⊢
    have hj' : j < (linesT l).length := by simpa using hj
    have := List.pairwise_iff_getElem.1 (linesT_sorted l) i j (by omega) hj' hij
    simp [List.getD, hj', show i < (linesT l).length by omega]
    exact this
theorem linesI_mem (l : List Int) (i : Nat) (hi : i < (linesI l).length) : 0 ≤ (linesI l).getD i 0 ∧ (linesI l).getD i 0 ≤ 31 := by
  have h := mem_getD hi
  generalize (linesI l).getD i 0 = x at h
  cases hr : rightT l with
  | false => rw [linesI_wrong hr] at h; simp at h
  | true =>
    rw [linesI_right hr] at h
    obtain ⟨n, hn, rfl⟩ := List.mem_map.1 h
    have := List.mem_range.1 (List.mem_filter.1 hn).1
    omega

/-- Has a number been met among the first k? -/
def metB (l : List Int) (x : Int) (k : Nat) : Bool := decide (x ∈ l.take k)
theorem metB_zero (l : List Int) (x : Int) : metB l x 0 = false := by simp [metB]
theorem metB_succ (l : List Int) (x : Int) (k : Nat) (hk : k < l.length) : metB l x (k + 1) = (metB l x k || (l.getD k 0 == x)) := by
  have e : l.getD k 0 = l[k] := by simp [List.getD, hk]
  unfold metB
  rw [e, List.take_add_one, List.getElem?_eq_getElem hk, Bool.eq_iff_iff, decide_eq_true_iff, Bool.or_eq_true, decide_eq_true_iff, List.mem_append, beq_iff_eq, Option.toList_some, List.mem_singleton, eq_comm (a := x)]
theorem metB_all (l : List Int) (x : Int) : metB l x l.length = decide (x ∈ l) := by simp [metB]

set_option maxHeartbeats 400000 in
set_option maxRecDepth 20000 in
theorem lines_law {E : Env7} {w : World} (hGl : Glob7 E w) {v : Value} {l : List Int} (hv : IntsV w v l) (x : Int) :
    Calls Tryd.prog 4 #[v, .int .i64 x] w fun r w' => r = .returned (.bool true) ∧ Below w.heap.size w w' := by
  have hb : Below w.heap.size w w := Below.refl _ _
  generalize hl : l.take 34 = l'
  go_enter Tryd.func4, Tryd.ntmps4
  go_wp2_with fail
  refine (shown_any hGl).mono ?_
  rintro r w0 ⟨rfl, hb0⟩
  replace hGl := hGl.below hb0
  replace hv := hv.below hb0
  replace hb := hb.trans (hb0.mono hb.size)
  clear hb0
  go_wp2_with fail
  refine (cut_any hv).mono ?_
  rintro r w1 ⟨⟨vc, rfl, hc⟩, rfl⟩
  clear hv
  rw [hl] at hc
  have m1 := lines_any hc
  go_wp2_with fail
  refine (m1).mono ?_
  rintro r w1 ⟨⟨v1, rfl, h1⟩, hb1⟩
  replace hGl := hGl.below hb1
  replace hc := hc.below hb1
  replace hb := hb.trans (hb1.mono hb.size)
  clear hb1
  clear m1
  have hlen : (linesI l').length ≤ 32 := by
    unfold linesI
    cases rightT l' with
    | false => exact Nat.zero_le _
    | true => simpa using linesT_le l'
  have F1 := Lib.hid (linesI_lt l')
  have F2 := Lib.hid (linesI_mem l')
  have HC := Lib.hid hc
  have hlast : (rightT l' || decide ((linesI l').length = 0)) = true := by
    cases hr : rightT l' with
    | true => rfl
    | false => rw [linesI_wrong hr]; rfl
  have HLs := Lib.hid hlast
  have HH1 := Lib.hid h1
  have HG := Lib.hid hGl
  clear hlast hc hGl
  generalize hL : linesI l' = L at *
  have HLL := Lib.hid hL
  clear hL
  cases h1 with
  | empty a cap =>
    go_wp2
    refine wp_loop_rounds 1 ?_
    rw [rounds_succ]
    have hB : Below w1.heap.size w1 w1 := Below.refl _ _
    go_wp2_with fail
    have hGl := HG.out.below hB
    have hc := (HC.out).below hB
    replace hb := hb.trans (hB.mono hb.size)
    have m1 := kept_any7 hc x
    rw [HLL.out] at m1
    go_wp2_with fail
    refine (m1).mono ?_
    rintro r w3 ⟨rfl, hb3⟩
    replace hGl := hGl.below hb3
    replace hc := hc.below hb3
    replace hb := hb.trans (hb3.mono hb.size)
    clear hb3
    have m1 := count_any hc
    rw [HLL.out] at m1
    go_wp2_with fail
    refine (m1).mono ?_
    rintro r w4 ⟨rfl, hb4⟩
    replace hGl := hGl.below hb4
    replace hc := hc.below hb4
    replace hb := hb.trans (hb4.mono hb.size)
    clear hb4
    have m1 := right_any7 hc
    have hor := HLs.out
    clear hGl hc
    cases hrr : rightT l'
    all_goals
      rw [hrr] at m1 hor
      clear hrr
      try (have hz : L.length = 0 := by simpa using hor)
      clear hor
      go_wp2_with fail
      refine m1.mono ?_
      rintro r w5 ⟨rfl, rfl⟩
      clear m1
      go_wp2
      go_ret
      exact ⟨by simp, hb⟩
  | some b off cap L hL1 hL2 hL3 =>
    have HL3 := Lib.hid hL3
    clear hL3
    go_wp2
    go_loopw [7, 8] (fun vb vi W => ∃ k : Nat, k ≤ L.length ∧ vi = .int .i64 k ∧ vb = .bool (metB L x k) ∧ Below w1.heap.size w1 W) (fun _ i _ => L.length - (intOf i).toNat)
    case atStart => exact ⟨0, Nat.zero_le _, rfl, by rw [metB_zero], Below.refl _ _⟩
    case round =>
      obtain ⟨k, hk, rfl, rfl, hB⟩ := hrel
      by_cases hlt : k < L.length
      · have c1 := (hB.cell (p := ⟨b, off + k, none⟩) (cell_lt (HL3.out k hlt))).trans (HL3.out k hlt)
        have hms := metB_succ L x k hlt
        have hr1 := F2.out k hlt
        cases k with
        | zero =>
          rw [metB_zero] at hms ⊢
          rw [Bool.false_or] at hms
          have HMs := Lib.hid hms
          clear hms
          rw [Nat.add_zero] at c1
          generalize L.getD 0 0 = y at *
          have hd1 : decide (y < 0) = false := decide_eq_false (by omega)
          have hd2 : decide (31 < y) = false := decide_eq_false (by omega)
          go_wp2
          go_region
          go_wp2
          go_round
          case rel => exact ⟨1, by omega, by go_num, by rw [HMs.out], hB.drew⟩
          case measure => simp [intOf]; omega
        | succ j =>
          have c2 := (hB.cell (p := ⟨b, off + j, none⟩) (cell_lt (HL3.out j (by omega)))).trans (HL3.out j (by omega))
          have hr2 := F1.out j (j + 1) (by omega) hlt
          generalize L.getD (j + 1) 0 = y at *
          generalize L.getD j 0 = z at *
          have hd1 : decide (y < 0) = false := decide_eq_false (by omega)
          have hd2 : decide (31 < y) = false := decide_eq_false (by omega)
          have hd3 : decide (y ≤ z) = false := decide_eq_false (by omega)
          cases hmet : metB L x (j + 1) with
          | true =>
            rw [hmet] at hms
            have HMs := Lib.hid hms
            have HMt := Lib.hid hmet
            clear hms hmet
            go_wp2
            go_region
            go_wp2
            go_round
            case rel => exact ⟨j + 2, by omega, by go_num, by rw [HMs.out, Bool.true_or], hB.drew⟩
            case measure => simp [intOf]; omega
          | false =>
            rw [hmet, Bool.false_or] at hms
            have HMs := Lib.hid hms
            have HMt := Lib.hid hmet
            clear hms hmet
            go_wp2
            go_region
            go_wp2
            go_round
            case rel => exact ⟨j + 2, by omega, by go_num, by rw [HMs.out], hB.drew⟩
            case measure => simp [intOf]; omega
      · obtain rfl : k = L.length := by omega
        rw [metB_all]
        go_wp2_with fail
        have hGl := HG.out.below hB
        have hc := (HC.out).below hB
        replace hb := hb.trans (hB.mono hb.size)
        have m1 := kept_any7 hc x
        rw [HLL.out] at m1
        go_wp2_with fail
        refine (m1).mono ?_
        rintro r w3 ⟨rfl, hb3⟩
        replace hGl := hGl.below hb3
        replace hc := hc.below hb3
        replace hb := hb.trans (hb3.mono hb.size)
        clear hb3
        have m1 := count_any hc
        rw [HLL.out] at m1
        go_wp2_with fail
        refine (m1).mono ?_
        rintro r w4 ⟨rfl, hb4⟩
        replace hGl := hGl.below hb4
        replace hc := hc.below hb4
        replace hb := hb.trans (hb4.mono hb.size)
        clear hb4
        have m1 := right_any7 hc
        have hor := HLs.out
        clear hGl hc
        cases hrr : rightT l'
        all_goals
          rw [hrr] at m1 hor
          clear hrr
          try (have hz : L.length = 0 := by simpa using hor)
          clear hor
          go_wp2_with fail
          refine m1.mono ?_
          rintro r w5 ⟨rfl, rfl⟩
          clear m1
          go_wp2
          go_ret
          exact ⟨by simp, hb⟩
end Go.Proofs.YteilnojniilmaaaDoor

namespace Go.Proofs.YteilnojniilmaaaDoor.lawMarksLines
open Go.ChangeShapes Go.WideShapes Go.ChangeAt Go.RowKit
set_option maxRecDepth 100000 in
theorem told (H : Type) (enc : TypeId × Value → H) (W : World) (base : Nat) (args : Array Value) (ds gs : List (DataW H)) (before : List MemPlace)
    (hval : ∀ (j : Nat) t v, Tryd.f4.params[j]? = some t → args[j]? = some v → Value.okWide Tryd.prog W .any base t v)
    (hW : DataW.Whole enc Tryd.prog Tryd.f4.params.toList Rows.marksLinesSpec.vars false W args.toList ds gs before) (hL : laidMetH Tryd.prog laidL W) :
    Calls Tryd.prog 4 args W fun e W' => ∃ v, e = .returned v ∧ Rows.marksLinesSpec.post enc Tryd.prog Tryd.f4 false true false false W args v W' := by
  have hW' := hW
  obtain ⟨p, q, hA0, hV, rfl, hfz, hnd⟩ := hW
  have hA : DataW.TrodAll enc Tryd.prog W 0 (fun _ => true) true Tryd.f4.params.toList args.toList ds p := hA0
  rw [Tryd.params4] at hA hval
  obtain ⟨v0, vs0, d0, ds0, p0, q0, hargs, rfl, rfl, h0, r0⟩ := trodAll_cons hA
  obtain ⟨v1, vs1, d1, ds1, p1, q1, rfl, rfl, rfl, h1, r1⟩ := trodAll_cons r0
  obtain ⟨rfl, rfl, rfl⟩ := trodAll_nil r1
  obtain rfl : args = #[v0, v1] := by cases args; simp_all
  obtain ⟨rfl, rfl⟩ := trodVars_none hV
  have k0 := h0
  have k1 := h1
  obtain ⟨l0, i0⟩ := ints_open (hval 0 22 v0 rfl rfl) h0
  obtain ⟨x1, rfl, rfl, rfl, wx1⟩ := open_int Tryd.underlying3 (hval 1 3 v1 rfl rfl) h1
  clear hA0
  simp only [List.append_nil] at hW'
  obtain ⟨E, hGl⟩ := glob_of_laid hL
  refine (lines_law hGl i0 x1).mono fun e W' ⟨he, hb⟩ => ?_
  subst he
  have hlt := hW'.lt
  have harg0 := Below.trod laidOut (by kernel_rfl) (of_decide_eq_true (by kernel_rfl)) k0 hb (fun y hy => by first | (cases hy; done) | (simpa using hlt y (by simp [hy])))
  have harg1 := Below.trod laidOut (by kernel_rfl) (of_decide_eq_true (by kernel_rfl)) k1 hb (fun y hy => by first | (cases hy; done) | (simpa using hlt y (by simp [hy])))
  exact ⟨_, rfl, _, _, _, [], _, [], hW', trodAll_cons_mk (shut_bool Tryd.underlying4 _) trodAll_mk0, (trodAll_cons_mk harg0 (trodAll_cons_mk harg1 trodAll_mk0)), rfl, hb.frame _, fun h => by cases h⟩

set_option maxRecDepth 100000 in
theorem lifted (os : Os) (started : os.Started) (H : Type) (enc : TypeId × Value → H) :
    ReturnsInHanded {} Tryd.checked os 4 .any (fun w args => (Rows.marksLinesSpec.pre enc Tryd.prog Tryd.f4 [] false w args ∧ laidMetH Tryd.prog laidL w) ∧ sizedMet enc Tryd.prog Tryd.f4 (OpenSpec.ofChange Rows.marksLinesSpec) false w args)
      (Rows.marksLinesSpec.post enc Tryd.prog Tryd.f4 false true false false) := by
  refine returnsInHanded_of_change_and (C := Tryd.checked) (X := fun w _ => laidMetH Tryd.prog laidL w) (fun _ _ _ hh h => h.of_heap hh) own started (by kernel_rfl) Tryd.func4
    (ChangeSpec.witness_shaped (enc := enc) (C := Tryd.checked) (os := os) (X := fun w _ => laidMetH Tryd.prog laidL w) false (World.doorLaid Tryd.prog 112 os) #[.slice none 0 0, .int .i64 0] 8 rfl (World.shaped_of_RefB (by kernel_rfl) (by kernel_rfl)) (by kernel_rfl) (by kernel_rfl) (by kernel_rfl) (door_met os _)) ?_
  intro W base args ds gs before hval hW _ _ hL _
  exact told H enc W base args ds gs before hval hW hL

theorem said : Rows.MarksLinesSaid :=
  OpenClaim.holds_of_wide 4 Tryd.f4 rfl rfl rfl rfl rfl rfl rfl ⟨rfl, rfl, rfl, rfl, rfl⟩ rfl rfl rfl rfl rfl (by kernel_rfl) Tryd.func4 (by kernel_rfl)
    (of_decide_eq_true (by kernel_rfl)) (by unfold Func.isWrapper; first | (rw [if_pos (by decide +kernel)]; kernel_rfl) | (rw [if_neg (by decide +kernel)]; exact ⟨rfl, rfl⟩))
    (fun os started H enc _ => lifted os started H enc)

theorem plain (f : FuncId) (fn : Func) (hf : Tryd.pinned.checked.prog.funcNamed "selion/selionlaw07.MarksLines" = some f) (hfn : Tryd.pinned.checked.prog.funcs[f]? = some fn) :
    true = Tryd.pinned.checked.prog.looks [] ∧ ∀ (j : Nat) t, fn.params[j]? = some t → Tryd.pinned.checked.prog.wantsStandIn t = false := by
  obtain rfl : f = 4 := Option.some.inj ((show Tryd.prog.funcNamed "selion/selionlaw07.MarksLines" = some 4 by kernel_rfl).symm.trans hf) |>.symm
  obtain rfl : fn = Tryd.f4 := (Option.some.inj (Tryd.func4.symm.trans hfn)).symm
  refine ⟨by kernel_rfl, fun j t ht => ?_⟩
  have hm : t ∈ Tryd.f4.params := Array.mem_of_getElem? ht
  rw [Tryd.params4] at hm
  have hm' : t = 22 ∨ t = 3 := by simpa using hm
  rcases hm' with rfl | rfl
  · exact (show Tryd.prog.wantsStandIn 22 = false by kernel_rfl)
  · exact (show Tryd.prog.wantsStandIn 3 = false by kernel_rfl)

/-- THE CARD. -/
theorem card : Rows.MarksLinesCardSaid :=
  Claim7.holds_tied_plain_at .later [] _ _ _ _ said (fun _ h => by cases h) (by kernel_rfl) (fun _ h => by cases h) marksLines_row_tie rfl ⟨rfl, rfl⟩ (by kernel_rfl) rfl plain (by kernel_rfl)
end Go.Proofs.YteilnojniilmaaaDoor.lawMarksLines

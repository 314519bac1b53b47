/- MarksMerges holds of every two lists, every extent and every line: the law's own text walked, and the card. -/
import Derived.Test.YteilnojniilmaaaDoorM10
import Derived.Test.YteilnojniilmaaaDoorOp
import Derived.Test.YteilnojniilmaaaDoorG7
import Derived.Test.YteilnojniilmaaaDoorCards
import Derived.Test.YteilnojniilmaaaDoorTie
namespace Go.Proofs.YteilnojniilmaaaDoor
open Go.RowKit
attribute [local go_sem ↓] Go.wp_at_zero Go.wp_at_succ

theorem mergeL_yes {l m : List Int} (h : rightT l = true) (k : rightT m = true) : mergeL l m = mergeT l m := by unfold mergeL; rw [h, k]; rfl
theorem mergeE_yes {l m : List Int} (h : rightT l = true) (k : rightT m = true) : mergeE l m = 0 := by unfold mergeE; rw [h, k]; rfl
theorem mergeL_no {l m : List Int} (h : (rightT l && rightT m) = false) : mergeL l m = [] := by unfold mergeL; rw [h]; rfl
theorem mergeE_no {l m : List Int} (h : (rightT l && rightT m) = false) : mergeE l m = 70 := by unfold mergeE; rw [h]; rfl

set_option maxHeartbeats 1000000 in
set_option maxRecDepth 20000 in
theorem merges_law {E : Env7} {w : World} (hGl : Glob7 E w) {v u : Value} {l m : List Int} (hv : IntsV w v l) (hu : IntsV w u m) (a n x : Int) :
    Calls Tryd.prog 8 #[v, u, .int .i64 a, .int .i64 n, .int .i64 x] w fun r w' => r = .returned (.bool true) ∧ Below w.heap.size w w' := by
  have hb : Below w.heap.size w w := Below.refl _ _
  generalize hl' : l.take 34 = l'
  generalize hm' : m.take 34 = m'
  have HL := Lib.hid hl'
  have HM := Lib.hid hm'
  clear hl' hm'
  cases hr : (rightT l' && rightT m') with
  | false =>
    have e1 := mergeE_no hr
    have e2 := mergeL_no hr
    have e3 : mergeE m' l' = 70 := mergeE_no (by rw [Bool.and_comm]; exact hr)
    clear hr
    go_enter Tryd.func8, Tryd.ntmps8
    go_wp2_with fail
    refine (shown_any hGl).mono ?_
    rintro r w0 ⟨rfl, hb0⟩
    replace hGl := hGl.below hb0
    replace hv := hv.below hb0
    replace hu := hu.below hb0
    replace hb := hb.trans (hb0.mono hb.size)
    clear hb0
    go_wp2_with fail
    refine (cut_any hv).mono ?_
    rintro r w1 ⟨⟨vc, rfl, hc⟩, rfl⟩
    go_wp2_with fail
    refine (cut_any hu).mono ?_
    rintro r w1 ⟨⟨uc, rfl, hd⟩, rfl⟩
    clear hv hu
    rw [HL.out] at hc
    rw [HM.out] at hd
    have m1 := merge_any hGl hc hd
    rw [e1, e2] at m1
    go_wp2_with fail
    refine (m1).mono ?_
    rintro r w1 ⟨⟨v1, rfl, h1⟩, hb1⟩
    replace hGl := hGl.below hb1
    replace hc := hc.below hb1
    replace hd := hd.below hb1
    replace hb := hb.trans (hb1.mono hb.size)
    clear hb1
    have m1 := merge_any hGl hd hc
    rw [e3] at m1
    go_wp2_with fail
    refine (m1).mono ?_
    rintro r w2 ⟨⟨v2, rfl, h2⟩, hb2⟩
    replace hGl := hGl.below hb2
    replace h1 := h1.below hb2
    replace hb := hb.trans (hb2.mono hb.size)
    clear hb2
    clear m1 hc hd h2
    obtain ⟨p, cap, rfl⟩ := h1.slice
    clear h1 hGl
    go_wp2
    go_ret
    exact ⟨rfl, hb⟩
  | true =>
    have hr' : rightT l' = true ∧ rightT m' = true := by simpa using hr
    obtain ⟨rl, rm⟩ := hr'
    have e1 := mergeE_yes rl rm
    have e2 := mergeL_yes rl rm
    have e3 := mergeE_yes rm rl
    have e4 : mergeL m' l' = mergeT l' m' := by rw [mergeL_yes rm rl, merge_comm]
    have rq := right_mergeT rl rm
    have hmem := merge_mem rl rm x
    have hmk := merge_mark rl rm a n
    go_enter Tryd.func8, Tryd.ntmps8
    go_wp2_with fail
    refine (shown_any hGl).mono ?_
    rintro r w0 ⟨rfl, hb0⟩
    replace hGl := hGl.below hb0
    replace hv := hv.below hb0
    replace hu := hu.below hb0
    replace hb := hb.trans (hb0.mono hb.size)
    clear hb0
    go_wp2_with fail
    refine (cut_any hv).mono ?_
    rintro r w1 ⟨⟨vc, rfl, hc⟩, rfl⟩
    go_wp2_with fail
    refine (cut_any hu).mono ?_
    rintro r w1 ⟨⟨uc, rfl, hd⟩, rfl⟩
    clear hv hu
    rw [HL.out] at hc
    rw [HM.out] at hd
    have m1 := merge_any hGl hc hd
    rw [e1, e2] at m1
    go_wp2_with fail
    refine (m1).mono ?_
    rintro r w1 ⟨⟨v1, rfl, h1⟩, hb1⟩
    replace hGl := hGl.below hb1
    replace hc := hc.below hb1
    replace hd := hd.below hb1
    replace hb := hb.trans (hb1.mono hb.size)
    clear hb1
    have m1 := merge_any hGl hd hc
    rw [e3, e4] at m1
    go_wp2_with fail
    refine (m1).mono ?_
    rintro r w2 ⟨⟨v2, rfl, h2⟩, hb2⟩
    replace hGl := hGl.below hb2
    replace h1 := h1.below hb2
    replace hc := hc.below hb2
    replace hd := hd.below hb2
    replace hb := hb.trans (hb2.mono hb.size)
    clear hb2
    cases hx : extB a n with
    | false =>
      have e5 : markE l' a n = 11 := by unfold markE; rw [rl, hx]; rfl
      have e6 : markE (mergeT l' m') a n = 11 := by unfold markE; rw [rq, hx]; rfl
      have m1 := mark_any hGl hc a n
      rw [e5] at m1
      clear hr hx e1 e2 e3 e4 hmk
      go_wp2_with fail
      refine (m1).mono ?_
      rintro r w3 ⟨⟨v3, rfl, h3⟩, hb3⟩
      replace hGl := hGl.below hb3
      replace h1 := h1.below hb3
      replace h2 := h2.below hb3
      replace hb := hb.trans (hb3.mono hb.size)
      clear hb3
      have m1 := mark_any hGl h1 a n
      rw [e6] at m1
      go_wp2_with fail
      refine (m1).mono ?_
      rintro r w4 ⟨⟨v4, rfl, h4⟩, hb4⟩
      replace h1 := h1.below hb4
      replace h2 := h2.below hb4
      replace hb := hb.trans (hb4.mono hb.size)
      clear hb4
      clear hGl h3 h4 hc hd e5 e6 rl rm rq hmem
      have m1 := ints_any h1 h2
      go_wp2_with fail
      refine (m1).mono ?_
      rintro r w5 ⟨rfl, hb5⟩
      replace h1 := h1.below hb5
      replace hb := hb.trans (hb5.mono hb.size)
      clear hb5
      clear m1 h1 h2
      go_wp2
      go_ret
      exact ⟨rfl, hb⟩
    | true =>
      have e5 : markE l' a n = 0 := by unfold markE; rw [rl, hx]; rfl
      have e6 : markE (mergeT l' m') a n = 0 := by unfold markE; rw [rq, hx]; rfl
      have e7 : markL l' a n = markT l' a n := by unfold markL; rw [rl, hx]; rfl
      have e8 : markL (mergeT l' m') a n = markT (mergeT l' m') a n := by unfold markL; rw [rq, hx]; rfl
      have rk := right_markT rl a n
      have e9 := mergeE_yes rk rm
      have e10 : mergeL (markT l' a n) m' = markT (mergeT l' m') a n := by rw [mergeL_yes rk rm, hmk]
      clear hr hx e1 e2 e3 e4 hmk
      have m1 := mark_any hGl hc a n
      rw [e5, e7] at m1
      go_wp2_with fail
      refine (m1).mono ?_
      rintro r w3 ⟨⟨v3, rfl, h3⟩, hb3⟩
      replace hGl := hGl.below hb3
      replace h1 := h1.below hb3
      replace h2 := h2.below hb3
      replace hc := hc.below hb3
      replace hd := hd.below hb3
      replace hb := hb.trans (hb3.mono hb.size)
      clear hb3
      have m1 := mark_any hGl h1 a n
      rw [e6, e8] at m1
      go_wp2_with fail
      refine (m1).mono ?_
      rintro r w4 ⟨⟨v4, rfl, h4⟩, hb4⟩
      replace hGl := hGl.below hb4
      replace h1 := h1.below hb4
      replace h2 := h2.below hb4
      replace hc := hc.below hb4
      replace hd := hd.below hb4
      replace h3 := h3.below hb4
      replace hb := hb.trans (hb4.mono hb.size)
      clear hb4
      have m1 := merge_any hGl h3 hd
      rw [e9, e10] at m1
      go_wp2_with fail
      refine (m1).mono ?_
      rintro r w5 ⟨⟨v5, rfl, h5⟩, hb5⟩
      replace h1 := h1.below hb5
      replace h2 := h2.below hb5
      replace hc := hc.below hb5
      replace hd := hd.below hb5
      replace h4 := h4.below hb5
      replace hb := hb.trans (hb5.mono hb.size)
      clear hb5
      clear h3 hGl e5 e6 e7 e8 e9 e10 rk rl rm rq
      generalize markT (mergeT l' m') a n = Z at *
      have m1 := ints_any h1 h2
      go_wp2_with fail
      refine (m1).mono ?_
      rintro r w6 ⟨rfl, hb6⟩
      replace h1 := h1.below hb6
      replace hc := hc.below hb6
      replace hd := hd.below hb6
      replace h4 := h4.below hb6
      replace h5 := h5.below hb6
      replace hb := hb.trans (hb6.mono hb.size)
      clear hb6
      clear m1 h2
      have m1 := kept_any7 h1 x
      go_wp2_with fail
      refine (m1).mono ?_
      rintro r w7 ⟨rfl, hb7⟩
      replace hc := hc.below hb7
      replace hd := hd.below hb7
      replace h4 := h4.below hb7
      replace h5 := h5.below hb7
      replace hb := hb.trans (hb7.mono hb.size)
      clear hb7
      clear m1 h1
      generalize linesI (mergeT l' m') = L0 at *
      have m1 := kept_any7 hc x
      have m2 := fun (W : World) (h : IntsV W uc m') => kept_any7 h x
      generalize linesI l' = L1 at *
      generalize linesI m' = L2 at *
      by_cases k1 : x ∈ L1
      · have k0 : x ∈ L0 := hmem.2 (.inl k1)
        rw [decide_eq_true k1] at m1
        rw [decide_eq_true k0]
        clear k0 k1 hmem
        go_wp2_with fail
        refine (m1).mono ?_
        rintro r w8 ⟨rfl, hb8⟩
        replace hd := hd.below hb8
        replace h4 := h4.below hb8
        replace h5 := h5.below hb8
        replace hb := hb.trans (hb8.mono hb.size)
        clear hb8
        clear m1 m2
        have m1 := ints_any h5 h4
        go_wp2_with fail
        refine (m1).mono ?_
        rintro r w9 ⟨rfl, hb9⟩
        replace hd := hd.below hb9
        replace hb := hb.trans (hb9.mono hb.size)
        clear hb9
        clear m1 h4 h5 hd
        go_wp2
        go_ret
        exact ⟨rfl, hb⟩
      · have k0 : decide (x ∈ L0) = decide (x ∈ L2) := by
          rw [Bool.eq_iff_iff, decide_eq_true_iff, decide_eq_true_iff, hmem]
          exact ⟨fun h => h.resolve_left k1, .inr⟩
        rw [decide_eq_false k1] at m1
        rw [k0]
        clear k0 k1 hmem
        generalize decide (x ∈ L2) = q at *
        go_wp2_with fail
        refine (m1).mono ?_
        rintro r w8 ⟨rfl, hb8⟩
        replace hd := hd.below hb8
        replace h4 := h4.below hb8
        replace h5 := h5.below hb8
        replace hb := hb.trans (hb8.mono hb.size)
        clear hb8
        clear m1
        have m1 := m2 _ hd
        go_wp2_with fail
        refine (m1).mono ?_
        rintro r w9 ⟨rfl, hb9⟩
        replace h4 := h4.below hb9
        replace h5 := h5.below hb9
        replace hb := hb.trans (hb9.mono hb.size)
        clear hb9
        clear m1 m2 hd
        have m1 := ints_any h5 h4
        go_wp2_with fail
        refine (m1).mono ?_
        rintro r w10 ⟨rfl, hb10⟩
        replace h4 := h4.below hb10
        replace hb := hb.trans (hb10.mono hb.size)
        clear hb10
        clear m1 h4 h5
        go_wp2
        go_ret
        exact ⟨by simp, hb⟩
end Go.Proofs.YteilnojniilmaaaDoor

namespace Go.Proofs.YteilnojniilmaaaDoor.lawMarksMerges
open Go.ChangeShapes Go.WideShapes Go.ChangeAt Go.RowKit
set_option maxRecDepth 100000 in
theorem told (H : Type) (enc : TypeId × Value → H) (W : World) (base : Nat) (args : Array Value) (ds gs : List (DataW H)) (before : List MemPlace)
    (hval : ∀ (j : Nat) t v, Tryd.f8.params[j]? = some t → args[j]? = some v → Value.okWide Tryd.prog W .any base t v)
    (hW : DataW.Whole enc Tryd.prog Tryd.f8.params.toList Rows.marksMergesSpec.vars false W args.toList ds gs before) (hL : laidMetH Tryd.prog laidL W) :
    Calls Tryd.prog 8 args W fun e W' => ∃ v, e = .returned v ∧ Rows.marksMergesSpec.post enc Tryd.prog Tryd.f8 false true false false W args v W' := by
  have hW' := hW
  obtain ⟨p, q, hA0, hV, rfl, hfz, hnd⟩ := hW
  have hA : DataW.TrodAll enc Tryd.prog W 0 (fun _ => true) true Tryd.f8.params.toList args.toList ds p := hA0
  rw [Tryd.params8] at hA hval
  obtain ⟨v0, vs0, d0, ds0, p0, q0, hargs, rfl, rfl, h0, r0⟩ := trodAll_cons hA
  obtain ⟨v1, vs1, d1, ds1, p1, q1, rfl, rfl, rfl, h1, r1⟩ := trodAll_cons r0
  obtain ⟨v2, vs2, d2, ds2, p2, q2, rfl, rfl, rfl, h2, r2⟩ := trodAll_cons r1
  obtain ⟨v3, vs3, d3, ds3, p3, q3, rfl, rfl, rfl, h3, r3⟩ := trodAll_cons r2
  obtain ⟨v4, vs4, d4, ds4, p4, q4, rfl, rfl, rfl, h4, r4⟩ := trodAll_cons r3
  obtain ⟨rfl, rfl, rfl⟩ := trodAll_nil r4
  obtain rfl : args = #[v0, v1, v2, v3, v4] := by cases args; simp_all
  obtain ⟨rfl, rfl⟩ := trodVars_none hV
  have k0 := h0
  have k1 := h1
  have k2 := h2
  have k3 := h3
  have k4 := h4
  obtain ⟨l0, i0⟩ := ints_open (hval 0 22 v0 rfl rfl) h0
  obtain ⟨l1, i1⟩ := ints_open (hval 1 22 v1 rfl rfl) h1
  obtain ⟨x2, rfl, rfl, rfl, wx2⟩ := open_int Tryd.underlying3 (hval 2 3 v2 rfl rfl) h2
  obtain ⟨x3, rfl, rfl, rfl, wx3⟩ := open_int Tryd.underlying3 (hval 3 3 v3 rfl rfl) h3
  obtain ⟨x4, rfl, rfl, rfl, wx4⟩ := open_int Tryd.underlying3 (hval 4 3 v4 rfl rfl) h4
  clear hA0
  simp only [List.append_nil] at hW'
  obtain ⟨E, hGl⟩ := glob_of_laid hL
  refine (merges_law hGl i0 i1 x2 x3 x4).mono fun e W' ⟨he, hb⟩ => ?_
  subst he
  have hlt := hW'.lt
  have harg0 := Below.trod laidOut (by kernel_rfl) (of_decide_eq_true (by kernel_rfl)) k0 hb (fun y hy => by first | (cases hy; done) | (simpa using hlt y (by simp [hy])))
  have harg1 := Below.trod laidOut (by kernel_rfl) (of_decide_eq_true (by kernel_rfl)) k1 hb (fun y hy => by first | (cases hy; done) | (simpa using hlt y (by simp [hy])))
  have harg2 := Below.trod laidOut (by kernel_rfl) (of_decide_eq_true (by kernel_rfl)) k2 hb (fun y hy => by first | (cases hy; done) | (simpa using hlt y (by simp [hy])))
  have harg3 := Below.trod laidOut (by kernel_rfl) (of_decide_eq_true (by kernel_rfl)) k3 hb (fun y hy => by first | (cases hy; done) | (simpa using hlt y (by simp [hy])))
  have harg4 := Below.trod laidOut (by kernel_rfl) (of_decide_eq_true (by kernel_rfl)) k4 hb (fun y hy => by first | (cases hy; done) | (simpa using hlt y (by simp [hy])))
  exact ⟨_, rfl, _, _, _, [], _, [], hW', trodAll_cons_mk (shut_bool Tryd.underlying4 _) trodAll_mk0, (trodAll_cons_mk harg0 (trodAll_cons_mk harg1 (trodAll_cons_mk harg2 (trodAll_cons_mk harg3 (trodAll_cons_mk harg4 trodAll_mk0))))), rfl, hb.frame _, fun h => by cases h⟩

set_option maxRecDepth 100000 in
theorem lifted (os : Os) (started : os.Started) (H : Type) (enc : TypeId × Value → H) :
    ReturnsInHanded {} Tryd.checked os 8 .any (fun w args => (Rows.marksMergesSpec.pre enc Tryd.prog Tryd.f8 [] false w args ∧ laidMetH Tryd.prog laidL w) ∧ sizedMet enc Tryd.prog Tryd.f8 (OpenSpec.ofChange Rows.marksMergesSpec) false w args)
      (Rows.marksMergesSpec.post enc Tryd.prog Tryd.f8 false true false false) := by
  refine returnsInHanded_of_change_and (C := Tryd.checked) (X := fun w _ => laidMetH Tryd.prog laidL w) (fun _ _ _ hh h => h.of_heap hh) own started (by kernel_rfl) Tryd.func8
    (ChangeSpec.witness_shaped (enc := enc) (C := Tryd.checked) (os := os) (X := fun w _ => laidMetH Tryd.prog laidL w) false (World.doorLaid Tryd.prog 112 os) #[.slice none 0 0, .slice none 0 0, .int .i64 0, .int .i64 0, .int .i64 0] 8 rfl (World.shaped_of_RefB (by kernel_rfl) (by kernel_rfl)) (by kernel_rfl) (by kernel_rfl) (by kernel_rfl) (door_met os _)) ?_
  intro W base args ds gs before hval hW _ _ hL _
  exact told H enc W base args ds gs before hval hW hL

theorem said : Rows.MarksMergesSaid :=
  OpenClaim.holds_of_wide 8 Tryd.f8 rfl rfl rfl rfl rfl rfl rfl ⟨rfl, rfl, rfl, rfl, rfl⟩ rfl rfl rfl rfl rfl (by kernel_rfl) Tryd.func8 (by kernel_rfl)
    (of_decide_eq_true (by kernel_rfl)) (by unfold Func.isWrapper; first | (rw [if_pos (by decide +kernel)]; kernel_rfl) | (rw [if_neg (by decide +kernel)]; exact ⟨rfl, rfl⟩))
    (fun os started H enc _ => lifted os started H enc)

theorem plain (f : FuncId) (fn : Func) (hf : Tryd.pinned.checked.prog.funcNamed "selion/selionlaw07.MarksMerges" = some f) (hfn : Tryd.pinned.checked.prog.funcs[f]? = some fn) :
    true = Tryd.pinned.checked.prog.looks [] ∧ ∀ (j : Nat) t, fn.params[j]? = some t → Tryd.pinned.checked.prog.wantsStandIn t = false := by
  obtain rfl : f = 8 := Option.some.inj ((show Tryd.prog.funcNamed "selion/selionlaw07.MarksMerges" = some 8 by kernel_rfl).symm.trans hf) |>.symm
  obtain rfl : fn = Tryd.f8 := (Option.some.inj (Tryd.func8.symm.trans hfn)).symm
  refine ⟨by kernel_rfl, fun j t ht => ?_⟩
  have hm : t ∈ Tryd.f8.params := Array.mem_of_getElem? ht
  rw [Tryd.params8] at hm
  have hm' : t = 22 ∨ t = 3 := by simpa using hm
  rcases hm' with rfl | rfl
  · exact (show Tryd.prog.wantsStandIn 22 = false by kernel_rfl)
  · exact (show Tryd.prog.wantsStandIn 3 = false by kernel_rfl)

/-- THE CARD. -/
theorem card : Rows.MarksMergesCardSaid :=
  Claim7.holds_tied_plain_at .later [] _ _ _ _ said (fun _ h => by cases h) (by kernel_rfl) (fun _ h => by cases h) marksMerges_row_tie rfl ⟨rfl, rfl⟩ (by kernel_rfl) rfl plain (by kernel_rfl)
end Go.Proofs.YteilnojniilmaaaDoor.lawMarksMerges

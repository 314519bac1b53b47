/- MarksSmall holds of every extent and every line: the law's own text walked, and the card. -/
import Derived.Test.YteilnojniilmaaaDoorM10
import Derived.Test.YteilnojniilmaaaDoorA6s
import Derived.Test.YteilnojniilmaaaDoorOp
import Derived.Test.YteilnojniilmaaaDoorG7
import Derived.Test.YteilnojniilmaaaDoorCards
import Derived.Test.YteilnojniilmaaaDoorTie
namespace Go.Proofs.YteilnojniilmaaaDoor
open Go.RowKit
attribute [local go_sem ↓] Go.wp_at_zero Go.wp_at_succ
attribute [local go_sem ↓] run_max_int run_min_int

theorem right_new : rightT (List.replicate 32 0) = true := by decide

set_option maxHeartbeats 1000000 in
set_option maxRecDepth 20000 in
theorem small_law {E : Env7} {w : World} (hGl : Glob7 E w) (a n x : Int) :
    Calls Tryd.prog 6 #[.int .i64 a, .int .i64 n, .int .i64 x] w fun r w' => r = .returned (.bool true) ∧ Below w.heap.size w w' := by
  have hb : Below w.heap.size w w := Below.refl _ _
  cases hx : extB a n with
  | false =>
    have e1 : markE (List.replicate 32 0) a n = 11 := by unfold markE; rw [right_new, hx]; rfl
    clear hx
    go_enter Tryd.func6, Tryd.ntmps6
    go_wp2_with fail
    refine (shown_any hGl).mono ?_
    rintro r w0 ⟨rfl, hb0⟩
    replace hGl := hGl.below hb0
    replace hb := hb.trans (hb0.mono hb.size)
    clear hb0
    go_wp2_with fail
    refine (make_any w0).mono ?_
    rintro r w1 ⟨⟨v1, rfl, h1⟩, hb1⟩
    replace hGl := hGl.below hb1
    replace hb := hb.trans (hb1.mono hb.size)
    clear hb1
    have m1 := mark_any hGl h1 a n
    rw [e1] at m1
    go_wp2_with fail
    refine (m1).mono ?_
    rintro r w2 ⟨⟨v2, rfl, h2⟩, hb2⟩
    replace hGl := hGl.below hb2
    replace hb := hb.trans (hb2.mono hb.size)
    clear hb2
    clear m1 h1 h2 hGl
    go_wp2
    go_ret
    exact ⟨rfl, hb⟩
  | true =>
    have e1 : markE (List.replicate 32 0) a n = 0 := by unfold markE; rw [right_new, hx]; rfl
    have e2 : markL (List.replicate 32 0) a n = markT (List.replicate 32 0) a n := by unfold markL; rw [right_new, hx]; rfl
    have hm := mark_lone a n hx x
    have hn := mark_lone_count a n hx
    obtain ⟨g1, g2, g3, g4, g5⟩ := (extB_iff a n).1 hx
    clear hx
    have S := fun (W : World) (h : Glob7 E W) => span_yes h.base a n (by simp [rightB]; omega) g1 (by omega) g3 (by omega)
    have HS := Lib.hid S
    clear S
    go_enter Tryd.func6, Tryd.ntmps6
    go_wp2_with fail
    refine (shown_any hGl).mono ?_
    rintro r w0 ⟨rfl, hb0⟩
    replace hGl := hGl.below hb0
    replace hb := hb.trans (hb0.mono hb.size)
    clear hb0
    go_wp2_with fail
    refine (make_any w0).mono ?_
    rintro r w1 ⟨⟨v1, rfl, h1⟩, hb1⟩
    replace hGl := hGl.below hb1
    replace hb := hb.trans (hb1.mono hb.size)
    clear hb1
    have m1 := mark_any hGl h1 a n
    rw [e1, e2] at m1
    go_wp2_with fail
    refine (m1).mono ?_
    rintro r w2 ⟨⟨v2, rfl, h2⟩, hb2⟩
    replace hGl := hGl.below hb2
    replace hb := hb.trans (hb2.mono hb.size)
    clear hb2
    clear m1 h1
    have m1 := HS.out _ hGl
    go_wp2_with fail
    refine (m1).mono ?_
    rintro r w3 ⟨rfl, hb3⟩
    replace hGl := hGl.below hb3
    replace h2 := h2.below hb3
    replace hb := hb.trans (hb3.mono hb.size)
    clear hb3
    clear m1
    have hf1 : 0 ≤ a / 128 := by omega
    have hf2 : a / 128 ≤ 31 := by omega
    have hf3 : a / 128 ≤ (a + n - 1) / 128 := by omega
    have hf4 : (a + n - 1) / 128 ≤ 31 := by omega
    generalize hL : linesI (markT (List.replicate 32 0) a n) = L at *
    have HM := Lib.hid hm
    have HN := Lib.hid hn
    have m1 := fun (W : World) (h : IntsV W v2 (markT (List.replicate 32 0) a n)) => kept_any7 h x
    have m2 := fun (W : World) (h : IntsV W v2 (markT (List.replicate 32 0) a n)) => count_any h
    rw [hL] at m1 m2
    have HM1 := Lib.hid m1
    have HM2 := Lib.hid m2
    clear hm hn m1 m2 hL
    generalize markT (List.replicate 32 0) a n = T at *
    generalize hfr : a / 128 = fr at *
    generalize hto : (a + n - 1) / 128 = to at *
    clear hfr hto
    by_cases h128 : n ≤ 128
    · have hm := HM.out
      have hn := HN.out
      rw [if_pos h128] at hm hn
      have HN2 := Lib.hid hn
      clear hn HM HN
      have m1 := HM1.out _ h2
      go_wp2_with fail
      refine (m1).mono ?_
      rintro r w4 ⟨rfl, hb4⟩
      replace hGl := hGl.below hb4
      replace h2 := h2.below hb4
      replace hb := hb.trans (hb4.mono hb.size)
      clear hb4
      clear m1
      by_cases k1 : fr ≤ x
      · by_cases k2 : x ≤ min (fr + 1) 31
        · have hd : x ∈ L := hm.2 ⟨k1, k2⟩
          rw [decide_eq_true hd]
          clear hd hm
          have m1 := HM2.out _ h2
          go_wp2_with fail
          refine (m1).mono ?_
          rintro r w5 ⟨rfl, hb5⟩
          replace hGl := hGl.below hb5
          replace hb := hb.trans (hb5.mono hb.size)
          clear hb5
          clear m1
          have hn := HN2.out
          generalize (L.length : Int) = c at *
          subst hn
          go_wp2
          go_ret
          exact ⟨by first | (simp; done) | (simp; omega), hb⟩
        · have hd : ¬ x ∈ L := fun h => k2 (hm.1 h).2
          rw [decide_eq_false hd]
          clear hd hm
          have m1 := HM2.out _ h2
          go_wp2_with fail
          refine (m1).mono ?_
          rintro r w5 ⟨rfl, hb5⟩
          replace hGl := hGl.below hb5
          replace hb := hb.trans (hb5.mono hb.size)
          clear hb5
          clear m1
          have hn := HN2.out
          generalize (L.length : Int) = c at *
          subst hn
          go_wp2
          go_ret
          exact ⟨by first | (simp; done) | (simp; omega), hb⟩
      · have hd : ¬ x ∈ L := fun h => k1 (hm.1 h).1
        rw [decide_eq_false hd]
        clear hd hm
        have m1 := HM2.out _ h2
        go_wp2_with fail
        refine (m1).mono ?_
        rintro r w5 ⟨rfl, hb5⟩
        replace hGl := hGl.below hb5
        replace hb := hb.trans (hb5.mono hb.size)
        clear hb5
        clear m1
        have hn := HN2.out
        generalize (L.length : Int) = c at *
        subst hn
        go_wp2
        go_ret
        exact ⟨by first | (simp; done) | (simp; omega), hb⟩
    · have hm := HM.out
      have hn := HN.out
      rw [if_neg h128] at hm hn
      have HN2 := Lib.hid hn
      clear hn HM HN
      have m1 := HM1.out _ h2
      go_wp2_with fail
      refine (m1).mono ?_
      rintro r w4 ⟨rfl, hb4⟩
      replace hGl := hGl.below hb4
      replace h2 := h2.below hb4
      replace hb := hb.trans (hb4.mono hb.size)
      clear hb4
      clear m1
      by_cases k1 : fr ≤ x
      · by_cases k2 : x ≤ to
        · have hd : x ∈ L := hm.2 ⟨k1, k2⟩
          rw [decide_eq_true hd]
          clear hd hm
          have m1 := HM2.out _ h2
          go_wp2_with fail
          refine (m1).mono ?_
          rintro r w5 ⟨rfl, hb5⟩
          replace hGl := hGl.below hb5
          replace hb := hb.trans (hb5.mono hb.size)
          clear hb5
          clear m1
          have hn := HN2.out
          generalize (L.length : Int) = c at *
          subst hn
          go_wp2
          go_ret
          exact ⟨by first | (simp; done) | (simp; omega), hb⟩
        · have hd : ¬ x ∈ L := fun h => k2 (hm.1 h).2
          rw [decide_eq_false hd]
          clear hd hm
          have m1 := HM2.out _ h2
          go_wp2_with fail
          refine (m1).mono ?_
          rintro r w5 ⟨rfl, hb5⟩
          replace hGl := hGl.below hb5
          replace hb := hb.trans (hb5.mono hb.size)
          clear hb5
          clear m1
          have hn := HN2.out
          generalize (L.length : Int) = c at *
          subst hn
          go_wp2
          go_ret
          exact ⟨by first | (simp; done) | (simp; omega), hb⟩
      · have hd : ¬ x ∈ L := fun h => k1 (hm.1 h).1
        rw [decide_eq_false hd]
        clear hd hm
        have m1 := HM2.out _ h2
        go_wp2_with fail
        refine (m1).mono ?_
        rintro r w5 ⟨rfl, hb5⟩
        replace hGl := hGl.below hb5
        replace hb := hb.trans (hb5.mono hb.size)
        clear hb5
        clear m1
        have hn := HN2.out
        generalize (L.length : Int) = c at *
        subst hn
        go_wp2
        go_ret
        exact ⟨by first | (simp; done) | (simp; omega), hb⟩
end Go.Proofs.YteilnojniilmaaaDoor

namespace Go.Proofs.YteilnojniilmaaaDoor.lawMarksSmall
open Go.ChangeShapes Go.WideShapes Go.ChangeAt Go.RowKit
set_option maxRecDepth 100000 in
theorem told (H : Type) (enc : TypeId × Value → H) (W : World) (base : Nat) (args : Array Value) (ds gs : List (DataW H)) (before : List MemPlace)
    (hval : ∀ (j : Nat) t v, Tryd.f6.params[j]? = some t → args[j]? = some v → Value.okWide Tryd.prog W .any base t v)
    (hW : DataW.Whole enc Tryd.prog Tryd.f6.params.toList Rows.marksSmallSpec.vars false W args.toList ds gs before) (hL : laidMetH Tryd.prog laidL W) :
    Calls Tryd.prog 6 args W fun e W' => ∃ v, e = .returned v ∧ Rows.marksSmallSpec.post enc Tryd.prog Tryd.f6 false true false false W args v W' := by
  have hW' := hW
  obtain ⟨p, q, hA0, hV, rfl, hfz, hnd⟩ := hW
  have hA : DataW.TrodAll enc Tryd.prog W 0 (fun _ => true) true Tryd.f6.params.toList args.toList ds p := hA0
  rw [Tryd.params6] at hA hval
  obtain ⟨v0, vs0, d0, ds0, p0, q0, hargs, rfl, rfl, h0, r0⟩ := trodAll_cons hA
  obtain ⟨v1, vs1, d1, ds1, p1, q1, rfl, rfl, rfl, h1, r1⟩ := trodAll_cons r0
  obtain ⟨v2, vs2, d2, ds2, p2, q2, rfl, rfl, rfl, h2, r2⟩ := trodAll_cons r1
  obtain ⟨rfl, rfl, rfl⟩ := trodAll_nil r2
  obtain rfl : args = #[v0, v1, v2] := by cases args; simp_all
  obtain ⟨rfl, rfl⟩ := trodVars_none hV
  obtain ⟨x0, rfl, rfl, rfl, wx0⟩ := open_int Tryd.underlying3 (hval 0 3 v0 rfl rfl) h0
  obtain ⟨x1, rfl, rfl, rfl, wx1⟩ := open_int Tryd.underlying3 (hval 1 3 v1 rfl rfl) h1
  obtain ⟨x2, rfl, rfl, rfl, wx2⟩ := open_int Tryd.underlying3 (hval 2 3 v2 rfl rfl) h2
  clear hA0
  simp only [List.append_nil] at hW'
  obtain ⟨E, hGl⟩ := glob_of_laid hL
  refine (small_law hGl x0 x1 x2).mono fun e W' ⟨he, hb⟩ => ?_
  subst he
  exact ⟨_, rfl, _, _, _, [], _, [], hW', trodAll_cons_mk (shut_bool Tryd.underlying4 _) trodAll_mk0, (trodAll_cons_mk (shut_int Tryd.underlying3 wx0) (trodAll_cons_mk (shut_int Tryd.underlying3 wx1) (trodAll_cons_mk (shut_int Tryd.underlying3 wx2) trodAll_mk0))), rfl, hb.frame _, fun h => by cases h⟩

set_option maxRecDepth 100000 in
theorem lifted (os : Os) (started : os.Started) (H : Type) (enc : TypeId × Value → H) :
    ReturnsInHanded {} Tryd.checked os 6 .any (fun w args => (Rows.marksSmallSpec.pre enc Tryd.prog Tryd.f6 [] false w args ∧ laidMetH Tryd.prog laidL w) ∧ sizedMet enc Tryd.prog Tryd.f6 (OpenSpec.ofChange Rows.marksSmallSpec) false w args)
      (Rows.marksSmallSpec.post enc Tryd.prog Tryd.f6 false true false false) := by
  refine returnsInHanded_of_change_and (C := Tryd.checked) (X := fun w _ => laidMetH Tryd.prog laidL w) (fun _ _ _ hh h => h.of_heap hh) own started (by kernel_rfl) Tryd.func6
    (ChangeSpec.witness_shaped (enc := enc) (C := Tryd.checked) (os := os) (X := fun w _ => laidMetH Tryd.prog laidL w) false (World.doorLaid Tryd.prog 112 os) #[.int .i64 0, .int .i64 0, .int .i64 0] 8 rfl (World.shaped_of_RefB (by kernel_rfl) (by kernel_rfl)) (by kernel_rfl) (by kernel_rfl) (by kernel_rfl) (door_met os _)) ?_
  intro W base args ds gs before hval hW _ _ hL _
  exact told H enc W base args ds gs before hval hW hL

theorem said : Rows.MarksSmallSaid :=
  OpenClaim.holds_of_wide 6 Tryd.f6 rfl rfl rfl rfl rfl rfl rfl ⟨rfl, rfl, rfl, rfl, rfl⟩ rfl rfl rfl rfl rfl (by kernel_rfl) Tryd.func6 (by kernel_rfl)
    (of_decide_eq_true (by kernel_rfl)) (by unfold Func.isWrapper; first | (rw [if_pos (by decide +kernel)]; kernel_rfl) | (rw [if_neg (by decide +kernel)]; exact ⟨rfl, rfl⟩))
    (fun os started H enc _ => lifted os started H enc)

theorem plain (f : FuncId) (fn : Func) (hf : Tryd.pinned.checked.prog.funcNamed "selion/selionlaw07.MarksSmall" = some f) (hfn : Tryd.pinned.checked.prog.funcs[f]? = some fn) :
    true = Tryd.pinned.checked.prog.looks [] ∧ ∀ (j : Nat) t, fn.params[j]? = some t → Tryd.pinned.checked.prog.wantsStandIn t = false := by
  obtain rfl : f = 6 := Option.some.inj ((show Tryd.prog.funcNamed "selion/selionlaw07.MarksSmall" = some 6 by kernel_rfl).symm.trans hf) |>.symm
  obtain rfl : fn = Tryd.f6 := (Option.some.inj (Tryd.func6.symm.trans hfn)).symm
  refine ⟨by kernel_rfl, fun j t ht => ?_⟩
  have hm : t ∈ Tryd.f6.params := Array.mem_of_getElem? ht
  rw [Tryd.params6] at hm
  have hm' : t = 3 := by simpa using hm
  subst hm'
  exact (show Tryd.prog.wantsStandIn 3 = false by kernel_rfl)

/-- THE CARD. -/
theorem card : Rows.MarksSmallCardSaid :=
  Claim7.holds_tied_plain_at .later [] _ _ _ _ said (fun _ h => by cases h) (by kernel_rfl) (fun _ h => by cases h) marksSmall_row_tie rfl ⟨rfl, rfl⟩ (by kernel_rfl) rfl plain (by kernel_rfl)
end Go.Proofs.YteilnojniilmaaaDoor.lawMarksSmall

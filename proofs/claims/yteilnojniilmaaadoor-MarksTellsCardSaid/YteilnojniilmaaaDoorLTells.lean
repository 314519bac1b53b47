/- MarksTells holds of every two lists, every line and every extent: the law's own text walked, and the card. -/
import Derived.Test.YteilnojniilmaaaDoorR2
import Derived.Test.YteilnojniilmaaaDoorOp
import Derived.Test.YteilnojniilmaaaDoorG7
import Derived.Test.YteilnojniilmaaaDoorCards
import Derived.Test.YteilnojniilmaaaDoorTie
namespace Go.Proofs.YteilnojniilmaaaDoor
open Go.RowKit
attribute [local go_sem ↓] Go.wp_at_zero Go.wp_at_succ

set_option maxHeartbeats 1000000 in
set_option maxRecDepth 20000 in
theorem tells_law {E : Env7} {w : World} (hGl : Glob7 E w) {v u : Value} {l m : List Int} (hv : IntsV w v l) (hu : IntsV w u m) (x a n : Int) :
    Calls Tryd.prog 7 #[v, u, .int .i64 x, .int .i64 a, .int .i64 n] w fun r w' => r = .returned (.bool true) ∧ Below w.heap.size w w' := by
  have hb : Below w.heap.size w w := Below.refl _ _
  generalize hl' : l.take 34 = l'
  generalize hm' : m.take 34 = m'
  have HL := Lib.hid hl'
  have HM := Lib.hid hm'
  clear hl' hm'
  go_enter Tryd.func7, Tryd.ntmps7
  go_wp2_with fail
  refine (shown_any hGl).mono ?_
  rintro r w0 ⟨rfl, hb0⟩
  replace hGl := hGl.below hb0
  replace hv := hv.below hb0
  replace hu := hu.below hb0
  replace hb := hb.trans (hb0.mono hb.size)
  clear hb0
  go_wp2_with fail
  refine (cut_any hv).mono ?_
  rintro r w1 ⟨⟨vc, rfl, hc⟩, rfl⟩
  go_wp2_with fail
  refine (cut_any hu).mono ?_
  rintro r w1 ⟨⟨uc, rfl, hd⟩, rfl⟩
  clear hv hu
  rw [HL.out] at hc
  rw [HM.out] at hd
  have m1 := mark_any hGl hc a n
  go_wp2_with fail
  refine (m1).mono ?_
  rintro r w1 ⟨⟨v1, rfl, h1⟩, hb1⟩
  replace hGl := hGl.below hb1
  replace hc := hc.below hb1
  replace hd := hd.below hb1
  replace hb := hb.trans (hb1.mono hb.size)
  clear hb1
  have m1 := refMark_any hc a n
  go_wp2_with fail
  refine (m1).mono ?_
  rintro r w2 ⟨⟨v2, rfl, h2⟩, hb2⟩
  replace hGl := hGl.below hb2
  replace hc := hc.below hb2
  replace hd := hd.below hb2
  replace h1 := h1.below hb2
  replace hb := hb.trans (hb2.mono hb.size)
  clear hb2
  generalize markE l' a n = y1 at *
  generalize markL l' a n = z1 at *
  have m1 := merge_any hGl hc hd
  go_wp2_with fail
  refine (m1).mono ?_
  rintro r w3 ⟨⟨v3, rfl, h3⟩, hb3⟩
  replace hc := hc.below hb3
  replace hd := hd.below hb3
  replace h1 := h1.below hb3
  replace h2 := h2.below hb3
  replace hb := hb.trans (hb3.mono hb.size)
  clear hb3
  clear hGl
  have m1 := refMerge_any hc hd
  go_wp2_with fail
  refine (m1).mono ?_
  rintro r w4 ⟨⟨v4, rfl, h4⟩, hb4⟩
  replace hc := hc.below hb4
  replace h1 := h1.below hb4
  replace h2 := h2.below hb4
  replace h3 := h3.below hb4
  replace hb := hb.trans (hb4.mono hb.size)
  clear hb4
  clear hd
  generalize mergeE l' m' = y2 at *
  generalize mergeL l' m' = z2 at *
  have m1 := right_any7 hc
  go_wp2_with fail
  refine m1.mono ?_
  rintro r w5 ⟨rfl, rfl⟩
  have m1 := refRight_any hc
  go_wp2_with fail
  refine (m1).mono ?_
  rintro r w6 ⟨rfl, hb6⟩
  replace hc := hc.below hb6
  replace h1 := h1.below hb6
  replace h2 := h2.below hb6
  replace h3 := h3.below hb6
  replace h4 := h4.below hb6
  replace hb := hb.trans (hb6.mono hb.size)
  clear hb6
  generalize rightT l' = q1 at *
  have m1 := kept_any7 hc x
  go_wp2_with fail
  refine (m1).mono ?_
  rintro r w7 ⟨rfl, hb7⟩
  replace hc := hc.below hb7
  replace h1 := h1.below hb7
  replace h2 := h2.below hb7
  replace h3 := h3.below hb7
  replace h4 := h4.below hb7
  replace hb := hb.trans (hb7.mono hb.size)
  clear hb7
  have m1 := refKept_any hc x
  unfold keptI at m1
  go_wp2_with fail
  refine (m1).mono ?_
  rintro r w8 ⟨rfl, hb8⟩
  replace hc := hc.below hb8
  replace h1 := h1.below hb8
  replace h2 := h2.below hb8
  replace h3 := h3.below hb8
  replace h4 := h4.below hb8
  replace hb := hb.trans (hb8.mono hb.size)
  clear hb8
  generalize decide (x ∈ linesI l') = q2 at *
  have m1 := lines_any hc
  go_wp2_with fail
  refine (m1).mono ?_
  rintro r w9 ⟨⟨v9, rfl, h9⟩, hb9⟩
  replace hc := hc.below hb9
  replace h1 := h1.below hb9
  replace h2 := h2.below hb9
  replace h3 := h3.below hb9
  replace h4 := h4.below hb9
  replace hb := hb.trans (hb9.mono hb.size)
  clear hb9
  have m1 := refLines_any hc
  go_wp2_with fail
  refine (m1).mono ?_
  rintro r w10 ⟨⟨v10, rfl, h10⟩, hb10⟩
  replace hc := hc.below hb10
  replace h1 := h1.below hb10
  replace h2 := h2.below hb10
  replace h3 := h3.below hb10
  replace h4 := h4.below hb10
  replace h9 := h9.below hb10
  replace hb := hb.trans (hb10.mono hb.size)
  clear hb10
  have m1 := ints_any h9 h10
  go_wp2_with fail
  refine (m1).mono ?_
  rintro r w11 ⟨rfl, hb11⟩
  replace hc := hc.below hb11
  replace h1 := h1.below hb11
  replace h2 := h2.below hb11
  replace h3 := h3.below hb11
  replace h4 := h4.below hb11
  replace hb := hb.trans (hb11.mono hb.size)
  clear hb11
  clear h9 h10
  have m1 := count_any hc
  go_wp2_with fail
  refine (m1).mono ?_
  rintro r w12 ⟨rfl, hb12⟩
  replace hc := hc.below hb12
  replace h1 := h1.below hb12
  replace h2 := h2.below hb12
  replace h3 := h3.below hb12
  replace h4 := h4.below hb12
  replace hb := hb.trans (hb12.mono hb.size)
  clear hb12
  have m1 := refCount_any hc
  go_wp2_with fail
  refine (m1).mono ?_
  rintro r w13 ⟨rfl, hb13⟩
  replace h1 := h1.below hb13
  replace h2 := h2.below hb13
  replace h3 := h3.below hb13
  replace h4 := h4.below hb13
  replace hb := hb.trans (hb13.mono hb.size)
  clear hb13
  clear hc m1
  generalize (linesI l').length = y3 at *
  have m1 := ints_any h1 h2
  go_wp2_with fail
  refine (m1).mono ?_
  rintro r w14 ⟨rfl, hb14⟩
  replace h3 := h3.below hb14
  replace h4 := h4.below hb14
  replace hb := hb.trans (hb14.mono hb.size)
  clear hb14
  clear h1 h2 m1
  have m1 := ints_any h3 h4
  go_wp2_with fail
  refine (m1).mono ?_
  rintro r w15 ⟨rfl, hb15⟩
  replace h3 := h3.below hb15
  replace hb := hb.trans (hb15.mono hb.size)
  clear hb15
  clear h3 h4 m1
  go_wp2_with fail
  refine (make_any w15).mono ?_
  rintro r w16 ⟨⟨v16, rfl, h16⟩, hb16⟩
  replace hb := hb.trans (hb16.mono hb.size)
  clear hb16
  have m1 := refMake_any w16
  go_wp2_with fail
  refine m1.mono ?_
  rintro r w17 ⟨⟨g, rfl, hA, -⟩, hb17⟩
  replace h16 := h16.below hb17
  replace hb := hb.trans (hb17.mono hb.size)
  have h17 := hA.ints (List.replicate 32 0) rfl fun j hj => by rw [List.getD_eq_getElem?_getD, List.getElem?_replicate, if_pos hj]; rfl
  clear hA m1 hb17
  have m1 := ints_any h16 h17
  go_wp2_with fail
  refine (m1).mono ?_
  rintro r w18 ⟨rfl, hb18⟩
  replace h16 := h16.below hb18
  replace hb := hb.trans (hb18.mono hb.size)
  clear hb18
  clear m1 h16 h17
  go_wp2
  go_ret
  exact ⟨by first | rfl | (simp; done), hb⟩
end Go.Proofs.YteilnojniilmaaaDoor

namespace Go.Proofs.YteilnojniilmaaaDoor.lawMarksTells
open Go.ChangeShapes Go.WideShapes Go.ChangeAt Go.RowKit
set_option maxRecDepth 100000 in
theorem told (H : Type) (enc : TypeId × Value → H) (W : World) (base : Nat) (args : Array Value) (ds gs : List (DataW H)) (before : List MemPlace)
    (hval : ∀ (j : Nat) t v, Tryd.f7.params[j]? = some t → args[j]? = some v → Value.okWide Tryd.prog W .any base t v)
    (hW : DataW.Whole enc Tryd.prog Tryd.f7.params.toList Rows.marksTellsSpec.vars false W args.toList ds gs before) (hL : laidMetH Tryd.prog laidL W) :
    Calls Tryd.prog 7 args W fun e W' => ∃ v, e = .returned v ∧ Rows.marksTellsSpec.post enc Tryd.prog Tryd.f7 false true false false W args v W' := by
  have hW' := hW
  obtain ⟨p, q, hA0, hV, rfl, hfz, hnd⟩ := hW
  have hA : DataW.TrodAll enc Tryd.prog W 0 (fun _ => true) true Tryd.f7.params.toList args.toList ds p := hA0
  rw [Tryd.params7] at hA hval
  obtain ⟨v0, vs0, d0, ds0, p0, q0, hargs, rfl, rfl, h0, r0⟩ := trodAll_cons hA
  obtain ⟨v1, vs1, d1, ds1, p1, q1, rfl, rfl, rfl, h1, r1⟩ := trodAll_cons r0
  obtain ⟨v2, vs2, d2, ds2, p2, q2, rfl, rfl, rfl, h2, r2⟩ := trodAll_cons r1
  obtain ⟨v3, vs3, d3, ds3, p3, q3, rfl, rfl, rfl, h3, r3⟩ := trodAll_cons r2
  obtain ⟨v4, vs4, d4, ds4, p4, q4, rfl, rfl, rfl, h4, r4⟩ := trodAll_cons r3
  obtain ⟨rfl, rfl, rfl⟩ := trodAll_nil r4
  obtain rfl : args = #[v0, v1, v2, v3, v4] := by cases args; simp_all
  obtain ⟨rfl, rfl⟩ := trodVars_none hV
  have k0 := h0
  have k1 := h1
  have k2 := h2
  have k3 := h3
  have k4 := h4
  obtain ⟨l0, i0⟩ := ints_open (hval 0 22 v0 rfl rfl) h0
  obtain ⟨l1, i1⟩ := ints_open (hval 1 22 v1 rfl rfl) h1
  obtain ⟨x2, rfl, rfl, rfl, wx2⟩ := open_int Tryd.underlying3 (hval 2 3 v2 rfl rfl) h2
  obtain ⟨x3, rfl, rfl, rfl, wx3⟩ := open_int Tryd.underlying3 (hval 3 3 v3 rfl rfl) h3
  obtain ⟨x4, rfl, rfl, rfl, wx4⟩ := open_int Tryd.underlying3 (hval 4 3 v4 rfl rfl) h4
  clear hA0
  simp only [List.append_nil] at hW'
  obtain ⟨E, hGl⟩ := glob_of_laid hL
  refine (tells_law hGl i0 i1 x2 x3 x4).mono fun e W' ⟨he, hb⟩ => ?_
  subst he
  have hlt := hW'.lt
  have harg0 := Below.trod laidOut (by kernel_rfl) (of_decide_eq_true (by kernel_rfl)) k0 hb (fun y hy => by first | (cases hy; done) | (simpa using hlt y (by simp [hy])))
  have harg1 := Below.trod laidOut (by kernel_rfl) (of_decide_eq_true (by kernel_rfl)) k1 hb (fun y hy => by first | (cases hy; done) | (simpa using hlt y (by simp [hy])))
  have harg2 := Below.trod laidOut (by kernel_rfl) (of_decide_eq_true (by kernel_rfl)) k2 hb (fun y hy => by first | (cases hy; done) | (simpa using hlt y (by simp [hy])))
  have harg3 := Below.trod laidOut (by kernel_rfl) (of_decide_eq_true (by kernel_rfl)) k3 hb (fun y hy => by first | (cases hy; done) | (simpa using hlt y (by simp [hy])))
  have harg4 := Below.trod laidOut (by kernel_rfl) (of_decide_eq_true (by kernel_rfl)) k4 hb (fun y hy => by first | (cases hy; done) | (simpa using hlt y (by simp [hy])))
  exact ⟨_, rfl, _, _, _, [], _, [], hW', trodAll_cons_mk (shut_bool Tryd.underlying4 _) trodAll_mk0, (trodAll_cons_mk harg0 (trodAll_cons_mk harg1 (trodAll_cons_mk harg2 (trodAll_cons_mk harg3 (trodAll_cons_mk harg4 trodAll_mk0))))), rfl, hb.frame _, fun h => by cases h⟩

set_option maxRecDepth 100000 in
theorem lifted (os : Os) (started : os.Started) (H : Type) (enc : TypeId × Value → H) :
    ReturnsInHanded {} Tryd.checked os 7 .any (fun w args => (Rows.marksTellsSpec.pre enc Tryd.prog Tryd.f7 [] false w args ∧ laidMetH Tryd.prog laidL w) ∧ sizedMet enc Tryd.prog Tryd.f7 (OpenSpec.ofChange Rows.marksTellsSpec) false w args)
      (Rows.marksTellsSpec.post enc Tryd.prog Tryd.f7 false true false false) := by
  refine returnsInHanded_of_change_and (C := Tryd.checked) (X := fun w _ => laidMetH Tryd.prog laidL w) (fun _ _ _ hh h => h.of_heap hh) own started (by kernel_rfl) Tryd.func7
    (ChangeSpec.witness_shaped (enc := enc) (C := Tryd.checked) (os := os) (X := fun w _ => laidMetH Tryd.prog laidL w) false (World.doorLaid Tryd.prog 112 os) #[.slice none 0 0, .slice none 0 0, .int .i64 0, .int .i64 0, .int .i64 0] 8 rfl (World.shaped_of_RefB (by kernel_rfl) (by kernel_rfl)) (by kernel_rfl) (by kernel_rfl) (by kernel_rfl) (door_met os _)) ?_
  intro W base args ds gs before hval hW _ _ hL _
  exact told H enc W base args ds gs before hval hW hL

theorem said : Rows.MarksTellsSaid :=
  OpenClaim.holds_of_wide 7 Tryd.f7 rfl rfl rfl rfl rfl rfl rfl ⟨rfl, rfl, rfl, rfl, rfl⟩ rfl rfl rfl rfl rfl (by kernel_rfl) Tryd.func7 (by kernel_rfl)
    (of_decide_eq_true (by kernel_rfl)) (by unfold Func.isWrapper; first | (rw [if_pos (by decide +kernel)]; kernel_rfl) | (rw [if_neg (by decide +kernel)]; exact ⟨rfl, rfl⟩))
    (fun os started H enc _ => lifted os started H enc)

theorem plain (f : FuncId) (fn : Func) (hf : Tryd.pinned.checked.prog.funcNamed "selion/selionlaw07.MarksTells" = some f) (hfn : Tryd.pinned.checked.prog.funcs[f]? = some fn) :
    true = Tryd.pinned.checked.prog.looks [] ∧ ∀ (j : Nat) t, fn.params[j]? = some t → Tryd.pinned.checked.prog.wantsStandIn t = false := by
  obtain rfl : f = 7 := Option.some.inj ((show Tryd.prog.funcNamed "selion/selionlaw07.MarksTells" = some 7 by kernel_rfl).symm.trans hf) |>.symm
  obtain rfl : fn = Tryd.f7 := (Option.some.inj (Tryd.func7.symm.trans hfn)).symm
  refine ⟨by kernel_rfl, fun j t ht => ?_⟩
  have hm : t ∈ Tryd.f7.params := Array.mem_of_getElem? ht
  rw [Tryd.params7] at hm
  have hm' : t = 22 ∨ t = 3 := by simpa using hm
  rcases hm' with rfl | rfl
  · exact (show Tryd.prog.wantsStandIn 22 = false by kernel_rfl)
  · exact (show Tryd.prog.wantsStandIn 3 = false by kernel_rfl)

/-- THE CARD. -/
theorem card : Rows.MarksTellsCardSaid :=
  Claim7.holds_tied_plain_at .later [] _ _ _ _ said (fun _ h => by cases h) (by kernel_rfl) (fun _ h => by cases h) marksTells_row_tie rfl ⟨rfl, rfl⟩ (by kernel_rfl) rfl plain (by kernel_rfl)
end Go.Proofs.YteilnojniilmaaaDoor.lawMarksTells

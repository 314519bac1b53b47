/- MarksTurns holds of every list and every two extents: the law's own text walked, and the card. -/
import Derived.Test.YteilnojniilmaaaDoorM9
import Derived.Test.YteilnojniilmaaaDoorOp
import Derived.Test.YteilnojniilmaaaDoorG7
import Derived.Test.YteilnojniilmaaaDoorCards
import Derived.Test.YteilnojniilmaaaDoorTie
namespace Go.Proofs.YteilnojniilmaaaDoor
open Go.RowKit

theorem markE_zero (l : List Int) (a n : Int) : markE l a n = 0 ↔ rightT l = true ∧ extB a n = true := by
  unfold markE
  cases rightT l <;> cases extB a n <;> simp
theorem markL_nil {l : List Int} {a n : Int} (h : markE l a n ≠ 0) : markL l a n = [] := by
  unfold markL
  rw [Ne, markE_zero] at h
  cases hr : rightT l <;> cases hx : extB a n <;> simp_all
theorem markL_yes {l : List Int} {a n : Int} (h : markE l a n = 0) : markL l a n = markT l a n := by
  obtain ⟨h1, h2⟩ := (markE_zero l a n).1 h
  unfold markL
  rw [h1, h2]; rfl
theorem markE_nil (a n : Int) : markE [] a n = 70 := rfl

set_option maxHeartbeats 2000000 in
set_option maxRecDepth 20000 in
theorem turns_no {E : Env7} {w : World} (hGl : Glob7 E w) {v : Value} {l : List Int} (hv : IntsV w v l) (a n b m : Int) (h : markE (l.take 34) a n ≠ 0 ∨ markE (l.take 34) b m ≠ 0) :
    Calls Tryd.prog 3 #[v, .int .i64 a, .int .i64 n, .int .i64 b, .int .i64 m] w fun r w' => r = .returned (.bool true) ∧ Below w.heap.size w w' := by
  generalize hl : l.take 34 = l' at h
  obtain ⟨x1, e1⟩ : ∃ x, markE l' a n = x := ⟨_, rfl⟩
  obtain ⟨x2, e2⟩ : ∃ x, markE (markL l' a n) b m = x := ⟨_, rfl⟩
  obtain ⟨x3, e3⟩ : ∃ x, markE l' b m = x := ⟨_, rfl⟩
  obtain ⟨x4, e4⟩ : ∃ x, markE (markL l' b m) a n = x := ⟨_, rfl⟩
  obtain ⟨x5, e5⟩ : ∃ x, markE (markL (markL l' a n) b m) a n = x := ⟨_, rfl⟩
  have f2 : x2 ≠ 0 := by
    intro e
    rw [← e2, markE_zero] at e
    by_cases k : markE l' a n = 0
    · rcases h with h | h
      · exact h k
      · exact h ((markE_zero l' b m).2 ⟨((markE_zero _ _ _).1 k).1, e.2⟩)
    · rw [markL_nil k] at e
      exact absurd e.1 (by decide)
  have f4 : x4 ≠ 0 := by
    intro e
    rw [← e4, markE_zero] at e
    by_cases k : markE l' b m = 0
    · rcases h with h | h
      · exact h ((markE_zero l' a n).2 ⟨((markE_zero _ _ _).1 k).1, e.2⟩)
      · exact h k
    · rw [markL_nil k] at e
      exact absurd e.1 (by decide)
  rw [e1, e3] at h
  have f2' : ¬ x2 = 0 := f2
  have f4' : ¬ x4 = 0 := f4
  clear f2 f4
  by_cases h' : x1 = 0
  all_goals
    first
    | (have h3 : ¬ x3 = 0 := h.resolve_left (fun k => k h'))
    | skip
    clear h
    have hb : Below w.heap.size w w := Below.refl _ _
    go_enter Tryd.func3, Tryd.ntmps3
    go_wp2_with fail
    refine (shown_any hGl).mono ?_
    rintro r w0 ⟨rfl, hb0⟩
    replace hGl := hGl.below hb0
    replace hv := hv.below hb0
    replace hb := hb.trans (hb0.mono hb.size)
    clear hb0
    go_wp2_with fail
    refine (cut_any hv).mono ?_
    rintro r w1 ⟨⟨vc, rfl, hc⟩, rfl⟩
    clear hv
    rw [hl] at hc
    have m1 := mark_any hGl hc a n
    rw [e1] at m1
    go_wp2_with fail
    refine (m1).mono ?_
    rintro r w1 ⟨⟨v1, rfl, h1⟩, hb1⟩
    replace hGl := hGl.below hb1
    replace hc := hc.below hb1
    replace hb := hb.trans (hb1.mono hb.size)
    clear hb1
    have m1 := mark_any hGl h1 b m
    rw [e2] at m1
    go_wp2_with fail
    refine (m1).mono ?_
    rintro r w2 ⟨⟨v2, rfl, h2⟩, hb2⟩
    replace hGl := hGl.below hb2
    replace hc := hc.below hb2
    replace hb := hb.trans (hb2.mono hb.size)
    clear hb2
    clear h1
    have m1 := mark_any hGl hc b m
    rw [e3] at m1
    go_wp2_with fail
    refine (m1).mono ?_
    rintro r w3 ⟨⟨v3, rfl, h3⟩, hb3⟩
    replace hGl := hGl.below hb3
    replace hc := hc.below hb3
    replace h2 := h2.below hb3
    replace hb := hb.trans (hb3.mono hb.size)
    clear hb3
    have m1 := mark_any hGl h3 a n
    rw [e4] at m1
    go_wp2_with fail
    refine (m1).mono ?_
    rintro r w4 ⟨⟨v4, rfl, h4⟩, hb4⟩
    replace hGl := hGl.below hb4
    replace h2 := h2.below hb4
    replace hb := hb.trans (hb4.mono hb.size)
    clear hb4
    clear h3 hc
    have m1 := mark_any hGl h2 a n
    rw [e5] at m1
    go_wp2_with fail
    refine (m1).mono ?_
    rintro r w5 ⟨⟨v5, rfl, h5⟩, hb5⟩
    replace hGl := hGl.below hb5
    replace h2 := h2.below hb5
    replace h4 := h4.below hb5
    replace hb := hb.trans (hb5.mono hb.size)
    clear hb5
    clear m1
    go_wp2
    all_goals
      go_ret
      exact ⟨by simp [f2', f4'], hb⟩

set_option maxHeartbeats 2000000 in
set_option maxRecDepth 20000 in
theorem turns_yes {E : Env7} {w : World} (hGl : Glob7 E w) {v : Value} {l : List Int} (hv : IntsV w v l) (a n b m : Int) (ha : markE (l.take 34) a n = 0) (hb' : markE (l.take 34) b m = 0) :
    Calls Tryd.prog 3 #[v, .int .i64 a, .int .i64 n, .int .i64 b, .int .i64 m] w fun r w' => r = .returned (.bool true) ∧ Below w.heap.size w w' := by
  generalize hl : l.take 34 = l' at ha hb'
  obtain ⟨r1, xa⟩ := (markE_zero _ _ _).1 ha
  obtain ⟨_, xb⟩ := (markE_zero _ _ _).1 hb'
  have e1 := ha
  have e3 := hb'
  have q1 : markL l' a n = markT l' a n := markL_yes ha
  have q3 : markL l' b m = markT l' b m := markL_yes hb'
  have e2 : markE (markL l' a n) b m = 0 := by rw [q1, markE_zero]; exact ⟨right_markT r1 _ _, xb⟩
  have e4 : markE (markL l' b m) a n = 0 := by rw [q3, markE_zero]; exact ⟨right_markT r1 _ _, xa⟩
  have q2 : markL (markL l' a n) b m = markT (markT l' a n) b m := by rw [markL_yes e2, q1]
  have q4 : markL (markL l' b m) a n = markT (markT l' a n) b m := by rw [markL_yes e4, q3, mark_turn r1]
  have e5 : markE (markL (markL l' a n) b m) a n = 0 := by rw [q2, markE_zero]; exact ⟨right_markT (right_markT r1 _ _) _ _, xa⟩
  have q5 : markL (markL (markL l' a n) b m) a n = markT (markT l' a n) b m := by rw [markL_yes e5, q2, mark_twice r1]
  have hb : Below w.heap.size w w := Below.refl _ _
  go_enter Tryd.func3, Tryd.ntmps3
  go_wp2_with fail
  refine (shown_any hGl).mono ?_
  rintro r w0 ⟨rfl, hb0⟩
  replace hGl := hGl.below hb0
  replace hv := hv.below hb0
  replace hb := hb.trans (hb0.mono hb.size)
  clear hb0
  go_wp2_with fail
  refine (cut_any hv).mono ?_
  rintro r w1 ⟨⟨vc, rfl, hc⟩, rfl⟩
  clear hv
  rw [hl] at hc
  have m1 := mark_any hGl hc a n
  rw [e1] at m1
  go_wp2_with fail
  refine (m1).mono ?_
  rintro r w1 ⟨⟨v1, rfl, h1⟩, hb1⟩
  replace hGl := hGl.below hb1
  replace hc := hc.below hb1
  replace hb := hb.trans (hb1.mono hb.size)
  clear hb1
  have m1 := mark_any hGl h1 b m
  rw [e2] at m1
  go_wp2_with fail
  refine (m1).mono ?_
  rintro r w2 ⟨⟨v2, rfl, h2⟩, hb2⟩
  replace hGl := hGl.below hb2
  replace hc := hc.below hb2
  replace hb := hb.trans (hb2.mono hb.size)
  clear hb2
  clear h1
  have m1 := mark_any hGl hc b m
  rw [e3] at m1
  go_wp2_with fail
  refine (m1).mono ?_
  rintro r w3 ⟨⟨v3, rfl, h3⟩, hb3⟩
  replace hGl := hGl.below hb3
  replace hc := hc.below hb3
  replace h2 := h2.below hb3
  replace hb := hb.trans (hb3.mono hb.size)
  clear hb3
  have m1 := mark_any hGl h3 a n
  rw [e4] at m1
  go_wp2_with fail
  refine (m1).mono ?_
  rintro r w4 ⟨⟨v4, rfl, h4⟩, hb4⟩
  replace hGl := hGl.below hb4
  replace h2 := h2.below hb4
  replace hb := hb.trans (hb4.mono hb.size)
  clear hb4
  clear h3 hc
  have m1 := mark_any hGl h2 a n
  rw [e5] at m1
  go_wp2_with fail
  refine (m1).mono ?_
  rintro r w5 ⟨⟨v5, rfl, h5⟩, hb5⟩
  replace hGl := hGl.below hb5
  replace h2 := h2.below hb5
  replace h4 := h4.below hb5
  replace hb := hb.trans (hb5.mono hb.size)
  clear hb5
  clear m1
  rw [q2] at h2
  rw [q4] at h4
  rw [q5] at h5
  clear e1 e2 e3 e4 e5 q1 q2 q3 q4 q5 xa xb r1 ha hb' hl
  generalize markT (markT l' a n) b m = z at *
  have m1 := ints_any h2 h4
  go_wp2_with fail
  refine (m1).mono ?_
  rintro r w6 ⟨rfl, hb6⟩
  replace h2 := h2.below hb6
  replace h5 := h5.below hb6
  replace hb := hb.trans (hb6.mono hb.size)
  clear hb6
  have m1 := ints_any h2 h5
  go_wp2_with fail
  refine (m1).mono ?_
  rintro r w7 ⟨rfl, hb7⟩
  replace h2 := h2.below hb7
  replace hb := hb.trans (hb7.mono hb.size)
  clear hb7
  clear m1
  go_wp2
  go_ret
  exact ⟨rfl, hb⟩

theorem turns_any {E : Env7} {w : World} (hGl : Glob7 E w) {v : Value} {l : List Int} (hv : IntsV w v l) (a n b m : Int) :
    Calls Tryd.prog 3 #[v, .int .i64 a, .int .i64 n, .int .i64 b, .int .i64 m] w fun r w' => r = .returned (.bool true) ∧ Below w.heap.size w w' := by
  by_cases h1 : markE (l.take 34) a n = 0
  · by_cases h2 : markE (l.take 34) b m = 0
    · exact turns_yes hGl hv a n b m h1 h2
    · exact turns_no hGl hv a n b m (.inr h2)
  · exact turns_no hGl hv a n b m (.inl h1)
end Go.Proofs.YteilnojniilmaaaDoor

namespace Go.Proofs.YteilnojniilmaaaDoor.lawMarksTurns
open Go.ChangeShapes Go.WideShapes Go.ChangeAt Go.RowKit
set_option maxRecDepth 100000 in
theorem told (H : Type) (enc : TypeId × Value → H) (W : World) (base : Nat) (args : Array Value) (ds gs : List (DataW H)) (before : List MemPlace)
    (hval : ∀ (j : Nat) t v, Tryd.f3.params[j]? = some t → args[j]? = some v → Value.okWide Tryd.prog W .any base t v)
    (hW : DataW.Whole enc Tryd.prog Tryd.f3.params.toList Rows.marksTurnsSpec.vars false W args.toList ds gs before) (hL : laidMetH Tryd.prog laidL W) :
    Calls Tryd.prog 3 args W fun e W' => ∃ v, e = .returned v ∧ Rows.marksTurnsSpec.post enc Tryd.prog Tryd.f3 false true false false W args v W' := by
  have hW' := hW
  obtain ⟨p, q, hA0, hV, rfl, hfz, hnd⟩ := hW
  have hA : DataW.TrodAll enc Tryd.prog W 0 (fun _ => true) true Tryd.f3.params.toList args.toList ds p := hA0
  rw [Tryd.params3] at hA hval
  obtain ⟨v0, vs0, d0, ds0, p0, q0, hargs, rfl, rfl, h0, r0⟩ := trodAll_cons hA
  obtain ⟨v1, vs1, d1, ds1, p1, q1, rfl, rfl, rfl, h1, r1⟩ := trodAll_cons r0
  obtain ⟨v2, vs2, d2, ds2, p2, q2, rfl, rfl, rfl, h2, r2⟩ := trodAll_cons r1
  obtain ⟨v3, vs3, d3, ds3, p3, q3, rfl, rfl, rfl, h3, r3⟩ := trodAll_cons r2
  obtain ⟨v4, vs4, d4, ds4, p4, q4, rfl, rfl, rfl, h4, r4⟩ := trodAll_cons r3
  obtain ⟨rfl, rfl, rfl⟩ := trodAll_nil r4
  obtain rfl : args = #[v0, v1, v2, v3, v4] := by cases args; simp_all
  obtain ⟨rfl, rfl⟩ := trodVars_none hV
  have k0 := h0
  have k1 := h1
  have k2 := h2
  have k3 := h3
  have k4 := h4
  obtain ⟨l0, i0⟩ := ints_open (hval 0 22 v0 rfl rfl) h0
  obtain ⟨x1, rfl, rfl, rfl, wx1⟩ := open_int Tryd.underlying3 (hval 1 3 v1 rfl rfl) h1
  obtain ⟨x2, rfl, rfl, rfl, wx2⟩ := open_int Tryd.underlying3 (hval 2 3 v2 rfl rfl) h2
  obtain ⟨x3, rfl, rfl, rfl, wx3⟩ := open_int Tryd.underlying3 (hval 3 3 v3 rfl rfl) h3
  obtain ⟨x4, rfl, rfl, rfl, wx4⟩ := open_int Tryd.underlying3 (hval 4 3 v4 rfl rfl) h4
  clear hA0
  simp only [List.append_nil] at hW'
  obtain ⟨E, hGl⟩ := glob_of_laid hL
  refine (turns_any hGl i0 x1 x2 x3 x4).mono fun e W' ⟨he, hb⟩ => ?_
  subst he
  have hlt := hW'.lt
  have harg0 := Below.trod laidOut (by kernel_rfl) (of_decide_eq_true (by kernel_rfl)) k0 hb (fun y hy => by first | (cases hy; done) | (simpa using hlt y (by simp [hy])))
  have harg1 := Below.trod laidOut (by kernel_rfl) (of_decide_eq_true (by kernel_rfl)) k1 hb (fun y hy => by first | (cases hy; done) | (simpa using hlt y (by simp [hy])))
  have harg2 := Below.trod laidOut (by kernel_rfl) (of_decide_eq_true (by kernel_rfl)) k2 hb (fun y hy => by first | (cases hy; done) | (simpa using hlt y (by simp [hy])))
  have harg3 := Below.trod laidOut (by kernel_rfl) (of_decide_eq_true (by kernel_rfl)) k3 hb (fun y hy => by first | (cases hy; done) | (simpa using hlt y (by simp [hy])))
  have harg4 := Below.trod laidOut (by kernel_rfl) (of_decide_eq_true (by kernel_rfl)) k4 hb (fun y hy => by first | (cases hy; done) | (simpa using hlt y (by simp [hy])))
  exact ⟨_, rfl, _, _, _, [], _, [], hW', trodAll_cons_mk (shut_bool Tryd.underlying4 _) trodAll_mk0, (trodAll_cons_mk harg0 (trodAll_cons_mk harg1 (trodAll_cons_mk harg2 (trodAll_cons_mk harg3 (trodAll_cons_mk harg4 trodAll_mk0))))), rfl, hb.frame _, fun h => by cases h⟩

set_option maxRecDepth 100000 in
theorem lifted (os : Os) (started : os.Started) (H : Type) (enc : TypeId × Value → H) :
    ReturnsInHanded {} Tryd.checked os 3 .any (fun w args => (Rows.marksTurnsSpec.pre enc Tryd.prog Tryd.f3 [] false w args ∧ laidMetH Tryd.prog laidL w) ∧ sizedMet enc Tryd.prog Tryd.f3 (OpenSpec.ofChange Rows.marksTurnsSpec) false w args)
      (Rows.marksTurnsSpec.post enc Tryd.prog Tryd.f3 false true false false) := by
  refine returnsInHanded_of_change_and (C := Tryd.checked) (X := fun w _ => laidMetH Tryd.prog laidL w) (fun _ _ _ hh h => h.of_heap hh) own started (by kernel_rfl) Tryd.func3
    (ChangeSpec.witness_shaped (enc := enc) (C := Tryd.checked) (os := os) (X := fun w _ => laidMetH Tryd.prog laidL w) false (World.doorLaid Tryd.prog 112 os) #[.slice none 0 0, .int .i64 0, .int .i64 0, .int .i64 0, .int .i64 0] 8 rfl (World.shaped_of_RefB (by kernel_rfl) (by kernel_rfl)) (by kernel_rfl) (by kernel_rfl) (by kernel_rfl) (door_met os _)) ?_
  intro W base args ds gs before hval hW _ _ hL _
  exact told H enc W base args ds gs before hval hW hL

theorem said : Rows.MarksTurnsSaid :=
  OpenClaim.holds_of_wide 3 Tryd.f3 rfl rfl rfl rfl rfl rfl rfl ⟨rfl, rfl, rfl, rfl, rfl⟩ rfl rfl rfl rfl rfl (by kernel_rfl) Tryd.func3 (by kernel_rfl)
    (of_decide_eq_true (by kernel_rfl)) (by unfold Func.isWrapper; first | (rw [if_pos (by decide +kernel)]; kernel_rfl) | (rw [if_neg (by decide +kernel)]; exact ⟨rfl, rfl⟩))
    (fun os started H enc _ => lifted os started H enc)

theorem plain (f : FuncId) (fn : Func) (hf : Tryd.pinned.checked.prog.funcNamed "selion/selionlaw07.MarksTurns" = some f) (hfn : Tryd.pinned.checked.prog.funcs[f]? = some fn) :
    true = Tryd.pinned.checked.prog.looks [] ∧ ∀ (j : Nat) t, fn.params[j]? = some t → Tryd.pinned.checked.prog.wantsStandIn t = false := by
  obtain rfl : f = 3 := Option.some.inj ((show Tryd.prog.funcNamed "selion/selionlaw07.MarksTurns" = some 3 by kernel_rfl).symm.trans hf) |>.symm
  obtain rfl : fn = Tryd.f3 := (Option.some.inj (Tryd.func3.symm.trans hfn)).symm
  refine ⟨by kernel_rfl, fun j t ht => ?_⟩
  have hm : t ∈ Tryd.f3.params := Array.mem_of_getElem? ht
  rw [Tryd.params3] at hm
  have hm' : t = 22 ∨ t = 3 := by simpa using hm
  rcases hm' with rfl | rfl
  · exact (show Tryd.prog.wantsStandIn 22 = false by kernel_rfl)
  · exact (show Tryd.prog.wantsStandIn 3 = false by kernel_rfl)

/-- THE CARD. -/
theorem card : Rows.MarksTurnsCardSaid :=
  Claim7.holds_tied_plain_at .later [] _ _ _ _ said (fun _ h => by cases h) (by kernel_rfl) (fun _ h => by cases h) marksTurns_row_tie rfl ⟨rfl, rfl⟩ (by kernel_rfl) rfl plain (by kernel_rfl)
end Go.Proofs.YteilnojniilmaaaDoor.lawMarksTurns

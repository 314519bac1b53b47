/- HeadApart holds of all heads: the law's own text walked, and the card. -/
import Derived.Test.YtdhligapadblgaaDoorG6b
import Derived.Test.YtdhligapadblgaaDoorCards
import Derived.Test.YtdhligapadblgaaDoorTie
namespace Go.Proofs.YtdhligapadblgaaDoor
open Go.RowKit
attribute [local go_sem ↓] Go.wp_at_zero Go.wp_at_succ

set_option maxHeartbeats 2000000 in
set_option maxRecDepth 20000 in
theorem apart_law {E : EnvH} {w : World} (hG : GlobH E w) {k l c e k' l' c' e' : Int} :
    Calls Tryd.prog 6 #[.agg #[.int .i64 k, .int .i64 l, .int .i64 c, .int .i64 e], .agg #[.int .i64 k', .int .i64 l', .int .i64 c', .int .i64 e']] w fun r w' => r = .returned (.bool true) ∧ Below w.heap.size w w' := by
  obtain ⟨w1, hw1, a0, -, a1, a2⟩ := allocs2 w (.cells #[.int .i64 k, .int .i64 l, .int .i64 c, .int .i64 e] 23) (.cells #[.int .i64 k', .int .i64 l', .int .i64 c', .int .i64 e'] 23)
  have hG1 := hG.below a0
  have m1 := shown_anyH hG1
  have HE := Lib.hid (fun (w' : World) (h : Below w1.heap.size w1 w') (k l c e : Int) => encode_any (hG1.below h) k l c e)
  clear hG hG1
  go_enter Tryd.func6, Tryd.ntmps6
  go_wp2_with fail
  refine m1.mono ?_
  rintro r w2 ⟨rfl, hb2⟩
  have b1 := (hb2.block _ (block_lt a1)).trans a1
  have b2 := (hb2.block _ (block_lt a2)).trans a2
  have c0 := cells_cell (i := 0) b1 (v := .int .i64 k) rfl
  have c1 := cells_cell (i := 1) b1 (v := .int .i64 l) rfl
  have c2 := cells_cell (i := 2) b1 (v := .int .i64 c) rfl
  have c3 := cells_cell (i := 3) b1 (v := .int .i64 e) rfl
  have m1 := HE.out w2 hb2 k l c e
  clear a1 a2 hw1
  go_wp2_with fail
  refine m1.mono ?_
  rintro r w3 ⟨rfl, hb3⟩
  have hB3 := blH hb2 hb3
  replace b1 := (hb3.block _ (block_lt b1)).trans b1
  replace b2 := (hb3.block _ (block_lt b2)).trans b2
  clear c0 c1 c2 c3
  have c0 := cells_cell (i := 0) b2 (v := .int .i64 k') rfl
  have c1 := cells_cell (i := 1) b2 (v := .int .i64 l') rfl
  have c2 := cells_cell (i := 2) b2 (v := .int .i64 c') rfl
  have c3 := cells_cell (i := 3) b2 (v := .int .i64 e') rfl
  have m1 := HE.out w3 hB3 k' l' c' e'
  clear hb2 hb3
  go_wp2_with fail
  refine m1.mono ?_
  rintro r w4 ⟨rfl, hb4⟩
  have hB4 := blH hB3 hb4
  have hBw := blH a0 hB4
  replace b1 := (hb4.block _ (block_lt b1)).trans b1
  replace b2 := (hb4.block _ (block_lt b2)).trans b2
  clear c0 c1 c2 c3 m1 HE hB3 hb4 a0 hB4
  cases hr : rightM k l c e with
  | false =>
    have q1 : encE k l c e = 60 := by unfold encE; rw [hr]; rfl
    have q2 : encI k l c e = ⟨#[]⟩ := by unfold encI; rw [hr]; rfl
    rw [q1, q2]
    clear q1 q2 hr b1 b2
    cases hr' : rightM k' l' c' e' with
    | false =>
      have q1 : encE k' l' c' e' = 60 := by unfold encE; rw [hr']; rfl
      have q2 : encI k' l' c' e' = ⟨#[]⟩ := by unfold encI; rw [hr']; rfl
      rw [q1, q2]
      clear q1 q2 hr'
      go_wp2; go_ret; exact ⟨rfl, hBw⟩
    | true =>
      have q1 : encE k' l' c' e' = 0 := by unfold encE; rw [hr']; rfl
      rw [q1]
      generalize encI k' l' c' e' = y
      clear q1 hr'
      go_wp2; go_ret; exact ⟨rfl, hBw⟩
  | true =>
    have q1 : encE k l c e = 0 := by unfold encE; rw [hr]; rfl
    have s1 := encI_size hr
    rw [q1]
    clear q1
    cases hr' : rightM k' l' c' e' with
    | false =>
      have q1 : encE k' l' c' e' = 60 := by unfold encE; rw [hr']; rfl
      have q2 : encI k' l' c' e' = ⟨#[]⟩ := by unfold encI; rw [hr']; rfl
      rw [q1, q2]
      generalize encI k l c e = x at *
      clear q1 q2 hr' hr b1 b2 s1
      go_wp2; go_ret; exact ⟨rfl, hBw⟩
    | true =>
      have q1 : encE k' l' c' e' = 0 := by unfold encE; rw [hr']; rfl
      have s2 := encI_size hr'
      rw [q1]
      have c0 := cells_cell (i := 0) b1 (v := .int .i64 k) rfl
      have c1 := cells_cell (i := 1) b1 (v := .int .i64 l) rfl
      have c2 := cells_cell (i := 2) b1 (v := .int .i64 c) rfl
      have c3 := cells_cell (i := 3) b1 (v := .int .i64 e) rfl
      have d0 := cells_cell (i := 0) b2 (v := .int .i64 k') rfl
      have d1 := cells_cell (i := 1) b2 (v := .int .i64 l') rfl
      have d2 := cells_cell (i := 2) b2 (v := .int .i64 c') rfl
      have d3 := cells_cell (i := 3) b2 (v := .int .i64 e') rfl
      have g1 : (((encI k l c e).size : Int) == 8) = true := by rw [s1]; rfl
      have g2 : (((encI k' l' c' e').size : Int) == 8) = true := by rw [s2]; rfl
      by_cases hkk : k = k' ∧ l = l' ∧ c = c' ∧ e = e'
      · obtain ⟨rfl, rfl, rfl, rfl⟩ := hkk
        generalize encI k l c e = x at *
        clear q1 s1 s2 hr hr' b1 b2
        go_wp2; go_ret; exact ⟨rfl, hBw⟩
      · have hne : ¬ encI k l c e = encI k' l' c' e' := fun h => hkk (encI_inj hr hr' h)
        have g3 : ((encI k l c e).toList == (encI k' l' c' e').toList) = false := by rw [str_eq, decide_eq_false hne]
        generalize encI k l c e = x at *
        generalize encI k' l' c' e' = y at *
        clear q1 s1 s2 hr hr' b1 b2 hne
        go_wp2
        all_goals
          go_ret
          exact ⟨rfl, hBw⟩
end Go.Proofs.YtdhligapadblgaaDoor

namespace Go.Proofs.YtdhligapadblgaaDoor.lawHeadApart
open Go.ChangeShapes Go.WideShapes Go.ChangeAt Go.RowKit
set_option maxRecDepth 100000 in
theorem told (H : Type) (enc : TypeId × Value → H) (W : World) (base : Nat) (args : Array Value) (ds gs : List (DataW H)) (before : List MemPlace)
    (hval : ∀ (j : Nat) t v, Tryd.f6.params[j]? = some t → args[j]? = some v → Value.okWide Tryd.prog W .any base t v)
    (hW : DataW.Whole enc Tryd.prog Tryd.f6.params.toList Rows.headApartSpec.vars false W args.toList ds gs before) (hL : laidMetH Tryd.prog laidL W) :
    Calls Tryd.prog 6 args W fun e W' => ∃ v, e = .returned v ∧ Rows.headApartSpec.post enc Tryd.prog Tryd.f6 false true false false W args v W' := by
  have hW' := hW
  obtain ⟨p, q, hA0, hV, rfl, hfz, hnd⟩ := hW
  have hA : DataW.TrodAll enc Tryd.prog W 0 (fun _ => true) true Tryd.f6.params.toList args.toList ds p := hA0
  rw [Tryd.params6] at hA hval
  obtain ⟨v0, vs0, d0, ds0, p0, q0, hargs, rfl, rfl, h0, r0⟩ := trodAll_cons hA
  obtain ⟨v1, vs1, d1, ds1, p1, q1, rfl, rfl, rfl, h1, r1⟩ := trodAll_cons r0
  obtain ⟨rfl, rfl, rfl⟩ := trodAll_nil r1
  obtain rfl : args = #[v0, v1] := by cases args; simp_all
  obtain ⟨rfl, rfl⟩ := trodVars_none hV
  have k0 := h0
  have k1 := h1
  obtain ⟨k0x, l0x, c0x, e0x, rfl⟩ := mark_open (hval 0 23 v0 rfl rfl) h0
  obtain ⟨k1x, l1x, c1x, e1x, rfl⟩ := mark_open (hval 1 23 v1 rfl rfl) h1
  clear hA0
  simp only [List.append_nil] at hW'
  obtain ⟨E, hGl⟩ := glob_of_laid hL
  refine (apart_law hGl ).mono fun e W' ⟨he, hb⟩ => ?_
  subst he
  have hlt := hW'.lt
  have harg0 := Below.trod laidOut (by kernel_rfl) (of_decide_eq_true (by kernel_rfl)) k0 hb (fun y hy => by first | (cases hy; done) | (simpa using hlt y (by simp [hy])))
  have harg1 := Below.trod laidOut (by kernel_rfl) (of_decide_eq_true (by kernel_rfl)) k1 hb (fun y hy => by first | (cases hy; done) | (simpa using hlt y (by simp [hy])))
  exact ⟨_, rfl, _, _, _, [], _, [], hW', trodAll_cons_mk (shut_bool Tryd.underlying4 _) trodAll_mk0, (trodAll_cons_mk harg0 (trodAll_cons_mk harg1 trodAll_mk0)), rfl, hb.frame _, fun h => by cases h⟩

set_option maxRecDepth 100000 in
theorem lifted (os : Os) (started : os.Started) (H : Type) (enc : TypeId × Value → H) :
    ReturnsInHanded {} Tryd.checked os 6 .any (fun w args => (Rows.headApartSpec.pre enc Tryd.prog Tryd.f6 [] false w args ∧ laidMetH Tryd.prog laidL w) ∧ sizedMet enc Tryd.prog Tryd.f6 (OpenSpec.ofChange Rows.headApartSpec) false w args)
      (Rows.headApartSpec.post enc Tryd.prog Tryd.f6 false true false false) := by
  refine returnsInHanded_of_change_and (C := Tryd.checked) (X := fun w _ => laidMetH Tryd.prog laidL w) (fun _ _ _ hh h => h.of_heap hh) own started (by kernel_rfl) Tryd.func6
    (ChangeSpec.witness_shaped (enc := enc) (C := Tryd.checked) (os := os) (X := fun w _ => laidMetH Tryd.prog laidL w) false (World.doorLaid Tryd.prog 189 os) #[.agg #[.int .i64 0, .int .i64 0, .int .i64 0, .int .i64 0], .agg #[.int .i64 0, .int .i64 0, .int .i64 0, .int .i64 0]] 8 rfl (World.shaped_of_RefB (by kernel_rfl) (by kernel_rfl)) (by kernel_rfl) (by kernel_rfl) (by kernel_rfl) (door_met os _)) ?_
  intro W base args ds gs before hval hW _ _ hL _
  exact told H enc W base args ds gs before hval hW hL

theorem said : Rows.HeadApartSaid :=
  OpenClaim.holds_of_wide 6 Tryd.f6 rfl rfl rfl rfl rfl rfl rfl ⟨rfl, rfl, rfl, rfl, rfl⟩ rfl rfl rfl rfl rfl (by kernel_rfl) Tryd.func6 (by kernel_rfl)
    (of_decide_eq_true (by kernel_rfl)) (by unfold Func.isWrapper; first | (rw [if_pos (by decide +kernel)]; kernel_rfl) | (rw [if_neg (by decide +kernel)]; exact ⟨rfl, rfl⟩))
    (fun os started H enc _ => lifted os started H enc)

theorem plain (f : FuncId) (fn : Func) (hf : Tryd.pinned.checked.prog.funcNamed "selion/selionlaw06.HeadApart" = some f) (hfn : Tryd.pinned.checked.prog.funcs[f]? = some fn) :
    true = Tryd.pinned.checked.prog.looks [] ∧ ∀ (j : Nat) t, fn.params[j]? = some t → Tryd.pinned.checked.prog.wantsStandIn t = false := by
  obtain rfl : f = 6 := Option.some.inj ((show Tryd.prog.funcNamed "selion/selionlaw06.HeadApart" = some 6 by kernel_rfl).symm.trans hf) |>.symm
  obtain rfl : fn = Tryd.f6 := (Option.some.inj (Tryd.func6.symm.trans hfn)).symm
  refine ⟨by kernel_rfl, fun j t ht => ?_⟩
  have hm : t ∈ Tryd.f6.params := Array.mem_of_getElem? ht
  rw [Tryd.params6] at hm
  have hm' : t = 23 := by simpa using hm
  subst hm'
  exact (show Tryd.prog.wantsStandIn 23 = false by kernel_rfl)

/-- THE CARD. -/
theorem card : Rows.HeadApartCardSaid :=
  Claim7.holds_tied_plain_at .later [] _ _ _ _ said (fun _ h => by cases h) (by kernel_rfl) (fun _ h => by cases h) headApart_row_tie rfl ⟨rfl, rfl⟩ (by kernel_rfl) rfl plain (by kernel_rfl)
end Go.Proofs.YtdhligapadblgaaDoor.lawHeadApart

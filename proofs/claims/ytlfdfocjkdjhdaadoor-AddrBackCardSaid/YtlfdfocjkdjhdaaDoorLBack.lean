/- The statement AddrBack: what is split is joined again, what is joined is split, for any four numbers. No condition. -/
import Derived.Test.YtlfdfocjkdjhdaaDoorC1
import Derived.Test.YtlfdfocjkdjhdaaDoorCards
import Derived.Test.YtlfdfocjkdjhdaaDoorTie
import Derived.Test.YtlfdfocjkdjhdaaDoorG
namespace Go.Proofs.YtlfdfocjkdjhdaaDoor
open Go.RowKit

set_option maxRecDepth 100000 in
set_option maxHeartbeats 1000000 in
theorem back_yy {E : Env} {w : World} (hGl : Glob E w) (a b c d : Int) (h0 : 0 ≤ a) (h1 : a < 131072) (hj : oneB b c d = true) :
    Calls Tryd.prog 4 #[.int .i64 a, .int .i64 b, .int .i64 c, .int .i64 d] w fun r w' => r = .returned (.bool true) ∧ Below w.heap.size w w' := by
  have hb : Below w.heap.size w w := Below.refl _ _
  have hj : oneB (a / 4096) (a % 4096 / 128) (a % 128) = true := by simp [oneB]; omega
  have hJ := Lib.hid hj
  clear hj
  have hR : rightB a = true := by simp [rightB]; omega
  have hE : (((a / 4096 * 32 + a % 4096 / 128) * 128 + a % 128) != a) = false := by simp <;> omega
  have J := Lib.hid hj
  simp only [oneB, decide_eq_true_eq] at hj
  obtain ⟨j1, j2, j3, j4, j5, j6⟩ := hj
  have hk0 : 0 ≤ (b * 32 + c) * 128 + d := by omega
  have hk1 : (b * 32 + c) * 128 + d < 131072 := by omega
  have e1 : (((b * 32 + c) * 128 + d) / 4096 == b) = true := by simp <;> omega
  have e2 : (((b * 32 + c) * 128 + d) % 4096 / 128 == c) = true := by simp <;> omega
  have e4 : (d % 128 == d) = true := by simp <;> omega
  have e3 : (((b * 32 + c) * 128 + d) % 128 == d) = true := by simp <;> omega
  go_enter Tryd.func4, Tryd.ntmps4
  go_wp2_with fail
  refine (shown_any hGl).mono ?_
  rintro e1 w1 ⟨rfl, hb1⟩
  replace hb := hb.trans (hb1.mono hb.size)
  replace hGl := hGl.below hb1
  clear hb1
  go_wp2_with fail
  refine (split_yes hGl a h0 h1).mono ?_
  rintro e2 w2 ⟨rfl, hb2⟩
  replace hb := hb.trans (hb2.mono hb.size)
  replace hGl := hGl.below hb2
  clear hb2
  go_wp2_with fail
  refine (join_yes hGl _ _ _ hJ.out).mono ?_
  rintro e3 w3 ⟨rfl, hb3⟩
  replace hb := hb.trans (hb3.mono hb.size)
  replace hGl := hGl.below hb3
  clear hb3
  go_wp2_with fail
  refine (join_yes hGl b c d J.out).mono ?_
  rintro e4 w4 ⟨rfl, hb4⟩
  replace hb := hb.trans (hb4.mono hb.size)
  replace hGl := hGl.below hb4
  clear hb4
  go_wp2_with fail
  refine (split_yes hGl _ hk0 hk1).mono ?_
  rintro e5 w5 ⟨rfl, hb5⟩
  replace hb := hb.trans (hb5.mono hb.size)
  replace hGl := hGl.below hb5
  clear hb5
  go_wp2_with fail
  refine (right_any a _).mono ?_
  rintro e6 w6 ⟨rfl, rfl⟩
  go_wp2
  go_ret
  exact ⟨rfl, hb⟩

set_option maxRecDepth 100000 in
set_option maxHeartbeats 1000000 in
theorem back_yn {E : Env} {w : World} (hGl : Glob E w) (a b c d : Int) (h0 : 0 ≤ a) (h1 : a < 131072) (hj : oneB b c d = false) :
    Calls Tryd.prog 4 #[.int .i64 a, .int .i64 b, .int .i64 c, .int .i64 d] w fun r w' => r = .returned (.bool true) ∧ Below w.heap.size w w' := by
  have hb : Below w.heap.size w w := Below.refl _ _
  have hj : oneB (a / 4096) (a % 4096 / 128) (a % 128) = true := by simp [oneB]; omega
  have hJ := Lib.hid hj
  clear hj
  have hR : rightB a = true := by simp [rightB]; omega
  have hE : (((a / 4096 * 32 + a % 4096 / 128) * 128 + a % 128) != a) = false := by simp <;> omega
  have J := Lib.hid hj
  clear hj
  go_enter Tryd.func4, Tryd.ntmps4
  go_wp2_with fail
  refine (shown_any hGl).mono ?_
  rintro e7 w7 ⟨rfl, hb7⟩
  replace hb := hb.trans (hb7.mono hb.size)
  replace hGl := hGl.below hb7
  clear hb7
  go_wp2_with fail
  refine (split_yes hGl a h0 h1).mono ?_
  rintro e8 w8 ⟨rfl, hb8⟩
  replace hb := hb.trans (hb8.mono hb.size)
  replace hGl := hGl.below hb8
  clear hb8
  go_wp2_with fail
  refine (join_yes hGl _ _ _ hJ.out).mono ?_
  rintro e9 w9 ⟨rfl, hb9⟩
  replace hb := hb.trans (hb9.mono hb.size)
  replace hGl := hGl.below hb9
  clear hb9
  go_wp2_with fail
  refine (join_no hGl b c d J.out).mono ?_
  rintro e10 w10 ⟨rfl, hb10⟩
  replace hb := hb.trans (hb10.mono hb.size)
  replace hGl := hGl.below hb10
  clear hb10
  go_wp2_with fail
  refine (split_yes hGl 0 (by decide) (by decide)).mono ?_
  rintro e11 w11 ⟨rfl, hb11⟩
  replace hb := hb.trans (hb11.mono hb.size)
  replace hGl := hGl.below hb11
  clear hb11
  go_wp2_with fail
  refine (right_any a _).mono ?_
  rintro e12 w12 ⟨rfl, rfl⟩
  go_wp2
  go_ret
  exact ⟨rfl, hb⟩

set_option maxRecDepth 100000 in
set_option maxHeartbeats 1000000 in
theorem back_ny {E : Env} {w : World} (hGl : Glob E w) (a b c d : Int) (h0 : ¬(0 ≤ a ∧ a < 131072)) (hj : oneB b c d = true) :
    Calls Tryd.prog 4 #[.int .i64 a, .int .i64 b, .int .i64 c, .int .i64 d] w fun r w' => r = .returned (.bool true) ∧ Below w.heap.size w w' := by
  have hb : Below w.heap.size w w := Below.refl _ _
  have hR : rightB a = false := by simp [rightB]; omega
  have H0 := Lib.hid h0
  have HR := Lib.hid hR
  clear h0
  have J := Lib.hid hj
  simp only [oneB, decide_eq_true_eq] at hj
  obtain ⟨j1, j2, j3, j4, j5, j6⟩ := hj
  have hk0 : 0 ≤ (b * 32 + c) * 128 + d := by omega
  have hk1 : (b * 32 + c) * 128 + d < 131072 := by omega
  have e1 : (((b * 32 + c) * 128 + d) / 4096 == b) = true := by simp <;> omega
  have e2 : (((b * 32 + c) * 128 + d) % 4096 / 128 == c) = true := by simp <;> omega
  have e4 : (d % 128 == d) = true := by simp <;> omega
  have e3 : (((b * 32 + c) * 128 + d) % 128 == d) = true := by simp <;> omega
  go_enter Tryd.func4, Tryd.ntmps4
  go_wp2_with fail
  refine (shown_any hGl).mono ?_
  rintro e13 w13 ⟨rfl, hb13⟩
  replace hb := hb.trans (hb13.mono hb.size)
  replace hGl := hGl.below hb13
  clear hb13
  go_wp2_with fail
  refine (split_no hGl a HR.out).mono ?_
  rintro e14 w14 ⟨rfl, hb14⟩
  replace hb := hb.trans (hb14.mono hb.size)
  replace hGl := hGl.below hb14
  clear hb14
  go_wp2_with fail
  refine (join_yes hGl 0 0 0 (by decide)).mono ?_
  rintro e15 w15 ⟨rfl, hb15⟩
  replace hb := hb.trans (hb15.mono hb.size)
  replace hGl := hGl.below hb15
  clear hb15
  go_wp2_with fail
  refine (join_yes hGl b c d J.out).mono ?_
  rintro e16 w16 ⟨rfl, hb16⟩
  replace hb := hb.trans (hb16.mono hb.size)
  replace hGl := hGl.below hb16
  clear hb16
  go_wp2_with fail
  refine (split_yes hGl _ hk0 hk1).mono ?_
  rintro e17 w17 ⟨rfl, hb17⟩
  replace hb := hb.trans (hb17.mono hb.size)
  replace hGl := hGl.below hb17
  clear hb17
  go_wp2_with fail
  refine (right_any a _).mono ?_
  rintro e18 w18 ⟨rfl, rfl⟩
  go_wp2
  go_ret
  exact ⟨rfl, hb⟩

set_option maxRecDepth 100000 in
set_option maxHeartbeats 1000000 in
theorem back_nn {E : Env} {w : World} (hGl : Glob E w) (a b c d : Int) (h0 : ¬(0 ≤ a ∧ a < 131072)) (hj : oneB b c d = false) :
    Calls Tryd.prog 4 #[.int .i64 a, .int .i64 b, .int .i64 c, .int .i64 d] w fun r w' => r = .returned (.bool true) ∧ Below w.heap.size w w' := by
  have hb : Below w.heap.size w w := Below.refl _ _
  have hR : rightB a = false := by simp [rightB]; omega
  have H0 := Lib.hid h0
  have HR := Lib.hid hR
  clear h0
  have J := Lib.hid hj
  clear hj
  go_enter Tryd.func4, Tryd.ntmps4
  go_wp2_with fail
  refine (shown_any hGl).mono ?_
  rintro e19 w19 ⟨rfl, hb19⟩
  replace hb := hb.trans (hb19.mono hb.size)
  replace hGl := hGl.below hb19
  clear hb19
  go_wp2_with fail
  refine (split_no hGl a HR.out).mono ?_
  rintro e20 w20 ⟨rfl, hb20⟩
  replace hb := hb.trans (hb20.mono hb.size)
  replace hGl := hGl.below hb20
  clear hb20
  go_wp2_with fail
  refine (join_yes hGl 0 0 0 (by decide)).mono ?_
  rintro e21 w21 ⟨rfl, hb21⟩
  replace hb := hb.trans (hb21.mono hb.size)
  replace hGl := hGl.below hb21
  clear hb21
  go_wp2_with fail
  refine (join_no hGl b c d J.out).mono ?_
  rintro e22 w22 ⟨rfl, hb22⟩
  replace hb := hb.trans (hb22.mono hb.size)
  replace hGl := hGl.below hb22
  clear hb22
  go_wp2_with fail
  refine (split_yes hGl 0 (by decide) (by decide)).mono ?_
  rintro e23 w23 ⟨rfl, hb23⟩
  replace hb := hb.trans (hb23.mono hb.size)
  replace hGl := hGl.below hb23
  clear hb23
  go_wp2_with fail
  refine (right_any a _).mono ?_
  rintro e24 w24 ⟨rfl, rfl⟩
  go_wp2
  go_ret
  exact ⟨rfl, hb⟩

theorem back {E : Env} {w : World} (hGl : Glob E w) (a b c d : Int) :
    Calls Tryd.prog 4 #[.int .i64 a, .int .i64 b, .int .i64 c, .int .i64 d] w fun r w' => r = .returned (.bool true) ∧ Below w.heap.size w w' := by
  by_cases h : 0 ≤ a ∧ a < 131072 <;> cases hj : oneB b c d
  · exact back_yn hGl a b c d h.1 h.2 hj
  · exact back_yy hGl a b c d h.1 h.2 hj
  · exact back_nn hGl a b c d h hj
  · exact back_ny hGl a b c d h hj
end Go.Proofs.YtlfdfocjkdjhdaaDoor

namespace Go.Proofs.YtlfdfocjkdjhdaaDoor.lawAddrBack
open Go.ChangeShapes Go.WideShapes Go.ChangeAt Go.RowKit
theorem told (H : Type) (enc : TypeId × Value → H) (W : World) (base : Nat) (args : Array Value) (ds gs : List (DataW H)) (before : List MemPlace)
    (hval : ∀ (j : Nat) t v, Tryd.f4.params[j]? = some t → args[j]? = some v → Value.okWide Tryd.prog W .any base t v)
    (hW : DataW.Whole enc Tryd.prog Tryd.f4.params.toList Rows.addrBackSpec.vars false W args.toList ds gs before) (hL : laidMetH Tryd.prog laidL W) :
    Calls Tryd.prog 4 args W fun e W' => ∃ v, e = .returned v ∧ Rows.addrBackSpec.post enc Tryd.prog Tryd.f4 false true false false W args v W' := by
  have hW' := hW
  obtain ⟨p, q, hA0, hV, rfl, hfz, hnd⟩ := hW
  have hA : DataW.TrodAll enc Tryd.prog W 0 (fun _ => true) true Tryd.f4.params.toList args.toList ds p := hA0
  rw [Tryd.params4] at hA hval
  obtain ⟨v0, vs0, d0, ds0, p0, q0, hargs, rfl, rfl, h0, r0⟩ := trodAll_cons hA
  obtain ⟨v1, vs1, d1, ds1, p1, q1, rfl, rfl, rfl, h1, r1⟩ := trodAll_cons r0
  obtain ⟨v2, vs2, d2, ds2, p2, q2, rfl, rfl, rfl, h2, r2⟩ := trodAll_cons r1
  obtain ⟨v3, vs3, d3, ds3, p3, q3, rfl, rfl, rfl, h3, r3⟩ := trodAll_cons r2
  obtain ⟨rfl, rfl, rfl⟩ := trodAll_nil r3
  obtain rfl : args = #[v0, v1, v2, v3] := by cases args; simp_all
  obtain ⟨rfl, rfl⟩ := trodVars_none hV
  obtain ⟨x0, rfl, rfl, rfl, wx0⟩ := open_int Tryd.underlying3 (hval 0 3 v0 rfl rfl) h0
  obtain ⟨x1, rfl, rfl, rfl, wx1⟩ := open_int Tryd.underlying3 (hval 1 3 v1 rfl rfl) h1
  obtain ⟨x2, rfl, rfl, rfl, wx2⟩ := open_int Tryd.underlying3 (hval 2 3 v2 rfl rfl) h2
  obtain ⟨x3, rfl, rfl, rfl, wx3⟩ := open_int Tryd.underlying3 (hval 3 3 v3 rfl rfl) h3
  clear hA0
  simp only [List.append_nil] at hW'
  obtain ⟨E, hGl⟩ := glob_of_laid hL
  refine (back hGl x0 x1 x2 x3).mono fun e W' ⟨he, hb⟩ => ?_
  subst he
  exact ⟨_, rfl, _, _, _, [], _, [], hW', trodAll_cons_mk (shut_bool Tryd.underlying4 _) trodAll_mk0, (trodAll_cons_mk (shut_int Tryd.underlying3 wx0) (trodAll_cons_mk (shut_int Tryd.underlying3 wx1) (trodAll_cons_mk (shut_int Tryd.underlying3 wx2) (trodAll_cons_mk (shut_int Tryd.underlying3 wx3) trodAll_mk0)))), rfl, hb.frame _, fun h => by cases h⟩

set_option maxRecDepth 100000 in
theorem lifted (os : Os) (started : os.Started) (H : Type) (enc : TypeId × Value → H) :
    ReturnsInHanded {} Tryd.checked os 4 .any (fun w args => (Rows.addrBackSpec.pre enc Tryd.prog Tryd.f4 [] false w args ∧ laidMetH Tryd.prog laidL w) ∧ sizedMet enc Tryd.prog Tryd.f4 (OpenSpec.ofChange Rows.addrBackSpec) false w args)
      (Rows.addrBackSpec.post enc Tryd.prog Tryd.f4 false true false false) := by
  refine returnsInHanded_of_change_and (C := Tryd.checked) (X := fun w _ => laidMetH Tryd.prog laidL w) (fun _ _ _ hh h => h.of_heap hh) own started (by kernel_rfl) Tryd.func4
    (ChangeSpec.witness_shaped (enc := enc) (C := Tryd.checked) (os := os) (X := fun w _ => laidMetH Tryd.prog laidL w) false (World.doorLaid Tryd.prog 74 os) #[.int .i64 0, .int .i64 0, .int .i64 0, .int .i64 0] 8 rfl (World.shaped_of_RefB (by kernel_rfl) (by kernel_rfl)) (by kernel_rfl) (by kernel_rfl) (by kernel_rfl) (door_met os _)) ?_
  intro W base args ds gs before hval hW _ _ hL _
  exact told H enc W base args ds gs before hval hW hL

theorem said : Rows.AddrBackSaid :=
  OpenClaim.holds_of_wide 4 Tryd.f4 rfl rfl rfl rfl rfl rfl rfl ⟨rfl, rfl, rfl, rfl, rfl⟩ rfl rfl rfl rfl rfl (by kernel_rfl) Tryd.func4 (by kernel_rfl)
    (of_decide_eq_true (by kernel_rfl)) (by unfold Func.isWrapper; first | (rw [if_pos (by decide +kernel)]; kernel_rfl) | (rw [if_neg (by decide +kernel)]; exact ⟨rfl, rfl⟩))
    (fun os started H enc _ => lifted os started H enc)

theorem plain (f : FuncId) (fn : Func) (hf : Tryd.pinned.checked.prog.funcNamed "selion/selionlaw01.AddrBack" = some f) (hfn : Tryd.pinned.checked.prog.funcs[f]? = some fn) :
    true = Tryd.pinned.checked.prog.looks [] ∧ ∀ (j : Nat) t, fn.params[j]? = some t → Tryd.pinned.checked.prog.wantsStandIn t = false := by
  obtain rfl : f = 4 := Option.some.inj ((show Tryd.prog.funcNamed "selion/selionlaw01.AddrBack" = some 4 by kernel_rfl).symm.trans hf) |>.symm
  obtain rfl : fn = Tryd.f4 := (Option.some.inj (Tryd.func4.symm.trans hfn)).symm
  refine ⟨by kernel_rfl, fun j t ht => ?_⟩
  have hm : t ∈ Tryd.f4.params := Array.mem_of_getElem? ht
  rw [Tryd.params4] at hm
  have hm' : t = 3 := by simpa using hm
  subst hm'
  exact (show Tryd.prog.wantsStandIn 3 = false by kernel_rfl)

/-- THE CARD. -/
theorem card : Rows.AddrBackCardSaid :=
  Claim7.holds_tied_plain_at .later [] _ _ _ _ said (fun _ h => by cases h) (by kernel_rfl) (fun _ h => by cases h) addrBack_row_tie rfl ⟨rfl, rfl⟩ (by kernel_rfl) rfl plain (by kernel_rfl)
end Go.Proofs.YtlfdfocjkdjhdaaDoor.lawAddrBack

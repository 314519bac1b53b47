/- The statement AddrGranules: addresses of granules and references are one to one, for any two numbers. No condition. -/
import Derived.Test.YtlfdfocjkdjhdaaDoorC1
import Derived.Test.YtlfdfocjkdjhdaaDoorCards
import Derived.Test.YtlfdfocjkdjhdaaDoorTie
import Derived.Test.YtlfdfocjkdjhdaaDoorG
namespace Go.Proofs.YtlfdfocjkdjhdaaDoor
open Go.RowKit

set_option maxRecDepth 100000 in
set_option maxHeartbeats 1000000 in
theorem gran_11 {E : Env} {w : World} (hGl : Glob E w) (a b : Int) (h0 : 0 ≤ a) (h1 : a < 131072) (hm : a % 8 = 0) (r0 : 1 ≤ b) (r1 : b ≤ 16384) :
    Calls Tryd.prog 6 #[.int .i64 a, .int .i64 b] w fun r w' => r = .returned (.bool true) ∧ Below w.heap.size w w' := by
  have hb : Below w.heap.size w w := Below.refl _ _
  have HM := Lib.hid hm
  have g0 : 1 ≤ a / 8 + 1 := by omega
  have g1 : a / 8 + 1 ≤ 16384 := by omega
  have gE : ((a / 8 + 1 - 1) * 8 != a) = false := by simp <;> omega
  have gE' : (a / 8 * 8 != a) = false := by simp <;> omega
  clear hm
  have d0 : 0 ≤ (b - 1) * 8 := by omega
  have d1 : (b - 1) * 8 < 131072 := by omega
  have d2 : (b - 1) * 8 % 8 = 0 := by omega
  have D2 := Lib.hid d2
  have e1 : ((b - 1) * 8 / 8 + 1 == b) = true := by simp <;> omega
  have e2 : ((b - 1) * 8 % 8 == 0) = true := by simp
  clear d2
  go_enter Tryd.func6, Tryd.ntmps6
  go_wp2_with fail
  refine (shown_any hGl).mono ?_
  rintro e1 w1 ⟨rfl, hb1⟩
  replace hb := hb.trans (hb1.mono hb.size)
  replace hGl := hGl.below hb1
  clear hb1
  go_wp2_with fail
  refine (ref_yes hGl a h0 h1 HM.out).mono ?_
  rintro e2 w2 ⟨rfl, hb2⟩
  replace hb := hb.trans (hb2.mono hb.size)
  replace hGl := hGl.below hb2
  clear hb2
  go_wp2_with fail
  refine (addr_yes hGl _ g0 g1).mono ?_
  rintro e3 w3 ⟨rfl, rfl⟩
  go_wp2_with fail
  refine (addr_yes hGl b r0 r1).mono ?_
  rintro e4 w4 ⟨rfl, rfl⟩
  go_wp2_with fail
  refine (ref_yes hGl _ d0 d1 D2.out).mono ?_
  rintro e5 w5 ⟨rfl, hb5⟩
  replace hb := hb.trans (hb5.mono hb.size)
  replace hGl := hGl.below hb5
  clear hb5
  go_wp2
  go_ret
  exact ⟨rfl, hb⟩

set_option maxRecDepth 100000 in
set_option maxHeartbeats 1000000 in
theorem gran_10 {E : Env} {w : World} (hGl : Glob E w) (a b : Int) (h0 : 0 ≤ a) (h1 : a < 131072) (hm : a % 8 = 0) (rn : ¬(1 ≤ b ∧ b ≤ 16384)) :
    Calls Tryd.prog 6 #[.int .i64 a, .int .i64 b] w fun r w' => r = .returned (.bool true) ∧ Below w.heap.size w w' := by
  have hb : Below w.heap.size w w := Below.refl _ _
  have HM := Lib.hid hm
  have g0 : 1 ≤ a / 8 + 1 := by omega
  have g1 : a / 8 + 1 ≤ 16384 := by omega
  have gE : ((a / 8 + 1 - 1) * 8 != a) = false := by simp <;> omega
  have gE' : (a / 8 * 8 != a) = false := by simp <;> omega
  clear hm
  have RN := Lib.hid rn
  clear rn
  go_enter Tryd.func6, Tryd.ntmps6
  go_wp2_with fail
  refine (shown_any hGl).mono ?_
  rintro e6 w6 ⟨rfl, hb6⟩
  replace hb := hb.trans (hb6.mono hb.size)
  replace hGl := hGl.below hb6
  clear hb6
  go_wp2_with fail
  refine (ref_yes hGl a h0 h1 HM.out).mono ?_
  rintro e7 w7 ⟨rfl, hb7⟩
  replace hb := hb.trans (hb7.mono hb.size)
  replace hGl := hGl.below hb7
  clear hb7
  go_wp2_with fail
  refine (addr_yes hGl _ g0 g1).mono ?_
  rintro e8 w8 ⟨rfl, rfl⟩
  go_wp2_with fail
  refine (addr_no hGl b RN.out).mono ?_
  rintro e9 w9 ⟨rfl, hb9⟩
  replace hb := hb.trans (hb9.mono hb.size)
  replace hGl := hGl.below hb9
  clear hb9
  go_wp2_with fail
  refine (ref_yes hGl 0 (by decide) (by decide) (by decide)).mono ?_
  rintro e10 w10 ⟨rfl, hb10⟩
  replace hb := hb.trans (hb10.mono hb.size)
  replace hGl := hGl.below hb10
  clear hb10
  go_wp2
  go_ret
  exact ⟨rfl, hb⟩

set_option maxRecDepth 100000 in
set_option maxHeartbeats 1000000 in
theorem gran_01 {E : Env} {w : World} (hGl : Glob E w) (a b : Int) (hn : ¬(0 ≤ a ∧ a < 131072 ∧ a % 8 = 0)) (r0 : 1 ≤ b) (r1 : b ≤ 16384) :
    Calls Tryd.prog 6 #[.int .i64 a, .int .i64 b] w fun r w' => r = .returned (.bool true) ∧ Below w.heap.size w w' := by
  have hb : Below w.heap.size w w := Below.refl _ _
  have HN := Lib.hid hn
  clear hn
  have d0 : 0 ≤ (b - 1) * 8 := by omega
  have d1 : (b - 1) * 8 < 131072 := by omega
  have d2 : (b - 1) * 8 % 8 = 0 := by omega
  have D2 := Lib.hid d2
  have e1 : ((b - 1) * 8 / 8 + 1 == b) = true := by simp <;> omega
  have e2 : ((b - 1) * 8 % 8 == 0) = true := by simp
  clear d2
  go_enter Tryd.func6, Tryd.ntmps6
  go_wp2_with fail
  refine (shown_any hGl).mono ?_
  rintro e11 w11 ⟨rfl, hb11⟩
  replace hb := hb.trans (hb11.mono hb.size)
  replace hGl := hGl.below hb11
  clear hb11
  go_wp2_with fail
  refine (ref_no hGl a HN.out).mono ?_
  rintro e12 w12 ⟨rfl, hb12⟩
  replace hb := hb.trans (hb12.mono hb.size)
  replace hGl := hGl.below hb12
  clear hb12
  go_wp2_with fail
  refine (addr_no hGl 0 (by decide)).mono ?_
  rintro e13 w13 ⟨rfl, hb13⟩
  replace hb := hb.trans (hb13.mono hb.size)
  replace hGl := hGl.below hb13
  clear hb13
  go_wp2_with fail
  refine (addr_yes hGl b r0 r1).mono ?_
  rintro e14 w14 ⟨rfl, rfl⟩
  go_wp2_with fail
  refine (ref_yes hGl _ d0 d1 D2.out).mono ?_
  rintro e15 w15 ⟨rfl, hb15⟩
  replace hb := hb.trans (hb15.mono hb.size)
  replace hGl := hGl.below hb15
  clear hb15
  go_wp2
  go_ret
  exact ⟨rfl, hb⟩

set_option maxRecDepth 100000 in
set_option maxHeartbeats 1000000 in
theorem gran_00 {E : Env} {w : World} (hGl : Glob E w) (a b : Int) (hn : ¬(0 ≤ a ∧ a < 131072 ∧ a % 8 = 0)) (rn : ¬(1 ≤ b ∧ b ≤ 16384)) :
    Calls Tryd.prog 6 #[.int .i64 a, .int .i64 b] w fun r w' => r = .returned (.bool true) ∧ Below w.heap.size w w' := by
  have hb : Below w.heap.size w w := Below.refl _ _
  have HN := Lib.hid hn
  clear hn
  have RN := Lib.hid rn
  clear rn
  go_enter Tryd.func6, Tryd.ntmps6
  go_wp2_with fail
  refine (shown_any hGl).mono ?_
  rintro e16 w16 ⟨rfl, hb16⟩
  replace hb := hb.trans (hb16.mono hb.size)
  replace hGl := hGl.below hb16
  clear hb16
  go_wp2_with fail
  refine (ref_no hGl a HN.out).mono ?_
  rintro e17 w17 ⟨rfl, hb17⟩
  replace hb := hb.trans (hb17.mono hb.size)
  replace hGl := hGl.below hb17
  clear hb17
  go_wp2_with fail
  refine (addr_no hGl 0 (by decide)).mono ?_
  rintro e18 w18 ⟨rfl, hb18⟩
  replace hb := hb.trans (hb18.mono hb.size)
  replace hGl := hGl.below hb18
  clear hb18
  go_wp2_with fail
  refine (addr_no hGl b RN.out).mono ?_
  rintro e19 w19 ⟨rfl, hb19⟩
  replace hb := hb.trans (hb19.mono hb.size)
  replace hGl := hGl.below hb19
  clear hb19
  go_wp2_with fail
  refine (ref_yes hGl 0 (by decide) (by decide) (by decide)).mono ?_
  rintro e20 w20 ⟨rfl, hb20⟩
  replace hb := hb.trans (hb20.mono hb.size)
  replace hGl := hGl.below hb20
  clear hb20
  go_wp2
  go_ret
  exact ⟨rfl, hb⟩

theorem gran {E : Env} {w : World} (hGl : Glob E w) (a b : Int) :
    Calls Tryd.prog 6 #[.int .i64 a, .int .i64 b] w fun r w' => r = .returned (.bool true) ∧ Below w.heap.size w w' := by
  by_cases h : 0 ≤ a ∧ a < 131072 ∧ a % 8 = 0 <;> by_cases hr : 1 ≤ b ∧ b ≤ 16384
  · exact gran_11 hGl a b h.1 h.2.1 h.2.2 hr.1 hr.2
  · exact gran_10 hGl a b h.1 h.2.1 h.2.2 hr
  · exact gran_01 hGl a b h hr.1 hr.2
  · exact gran_00 hGl a b h hr
end Go.Proofs.YtlfdfocjkdjhdaaDoor

namespace Go.Proofs.YtlfdfocjkdjhdaaDoor.lawAddrGranules
open Go.ChangeShapes Go.WideShapes Go.ChangeAt Go.RowKit
theorem told (H : Type) (enc : TypeId × Value → H) (W : World) (base : Nat) (args : Array Value) (ds gs : List (DataW H)) (before : List MemPlace)
    (hval : ∀ (j : Nat) t v, Tryd.f6.params[j]? = some t → args[j]? = some v → Value.okWide Tryd.prog W .any base t v)
    (hW : DataW.Whole enc Tryd.prog Tryd.f6.params.toList Rows.addrGranulesSpec.vars false W args.toList ds gs before) (hL : laidMetH Tryd.prog laidL W) :
    Calls Tryd.prog 6 args W fun e W' => ∃ v, e = .returned v ∧ Rows.addrGranulesSpec.post enc Tryd.prog Tryd.f6 false true false false W args v W' := by
  have hW' := hW
  obtain ⟨p, q, hA0, hV, rfl, hfz, hnd⟩ := hW
  have hA : DataW.TrodAll enc Tryd.prog W 0 (fun _ => true) true Tryd.f6.params.toList args.toList ds p := hA0
  rw [Tryd.params6] at hA hval
  obtain ⟨v0, vs0, d0, ds0, p0, q0, hargs, rfl, rfl, h0, r0⟩ := trodAll_cons hA
  obtain ⟨v1, vs1, d1, ds1, p1, q1, rfl, rfl, rfl, h1, r1⟩ := trodAll_cons r0
  obtain ⟨rfl, rfl, rfl⟩ := trodAll_nil r1
  obtain rfl : args = #[v0, v1] := by cases args; simp_all
  obtain ⟨rfl, rfl⟩ := trodVars_none hV
  obtain ⟨x0, rfl, rfl, rfl, wx0⟩ := open_int Tryd.underlying3 (hval 0 3 v0 rfl rfl) h0
  obtain ⟨x1, rfl, rfl, rfl, wx1⟩ := open_int Tryd.underlying3 (hval 1 3 v1 rfl rfl) h1
  clear hA0
  simp only [List.append_nil] at hW'
  obtain ⟨E, hGl⟩ := glob_of_laid hL
  refine (gran hGl x0 x1).mono fun e W' ⟨he, hb⟩ => ?_
  subst he
  exact ⟨_, rfl, _, _, _, [], _, [], hW', trodAll_cons_mk (shut_bool Tryd.underlying4 _) trodAll_mk0, (trodAll_cons_mk (shut_int Tryd.underlying3 wx0) (trodAll_cons_mk (shut_int Tryd.underlying3 wx1) trodAll_mk0)), rfl, hb.frame _, fun h => by cases h⟩

set_option maxRecDepth 100000 in
theorem lifted (os : Os) (started : os.Started) (H : Type) (enc : TypeId × Value → H) :
    ReturnsInHanded {} Tryd.checked os 6 .any (fun w args => (Rows.addrGranulesSpec.pre enc Tryd.prog Tryd.f6 [] false w args ∧ laidMetH Tryd.prog laidL w) ∧ sizedMet enc Tryd.prog Tryd.f6 (OpenSpec.ofChange Rows.addrGranulesSpec) false w args)
      (Rows.addrGranulesSpec.post enc Tryd.prog Tryd.f6 false true false false) := by
  refine returnsInHanded_of_change_and (C := Tryd.checked) (X := fun w _ => laidMetH Tryd.prog laidL w) (fun _ _ _ hh h => h.of_heap hh) own started (by kernel_rfl) Tryd.func6
    (ChangeSpec.witness_shaped (enc := enc) (C := Tryd.checked) (os := os) (X := fun w _ => laidMetH Tryd.prog laidL w) false (World.doorLaid Tryd.prog 74 os) #[.int .i64 0, .int .i64 0] 8 rfl (World.shaped_of_RefB (by kernel_rfl) (by kernel_rfl)) (by kernel_rfl) (by kernel_rfl) (by kernel_rfl) (door_met os _)) ?_
  intro W base args ds gs before hval hW _ _ hL _
  exact told H enc W base args ds gs before hval hW hL

theorem said : Rows.AddrGranulesSaid :=
  OpenClaim.holds_of_wide 6 Tryd.f6 rfl rfl rfl rfl rfl rfl rfl ⟨rfl, rfl, rfl, rfl, rfl⟩ rfl rfl rfl rfl rfl (by kernel_rfl) Tryd.func6 (by kernel_rfl)
    (of_decide_eq_true (by kernel_rfl)) (by unfold Func.isWrapper; first | (rw [if_pos (by decide +kernel)]; kernel_rfl) | (rw [if_neg (by decide +kernel)]; exact ⟨rfl, rfl⟩))
    (fun os started H enc _ => lifted os started H enc)

theorem plain (f : FuncId) (fn : Func) (hf : Tryd.pinned.checked.prog.funcNamed "selion/selionlaw01.AddrGranules" = some f) (hfn : Tryd.pinned.checked.prog.funcs[f]? = some fn) :
    true = Tryd.pinned.checked.prog.looks [] ∧ ∀ (j : Nat) t, fn.params[j]? = some t → Tryd.pinned.checked.prog.wantsStandIn t = false := by
  obtain rfl : f = 6 := Option.some.inj ((show Tryd.prog.funcNamed "selion/selionlaw01.AddrGranules" = some 6 by kernel_rfl).symm.trans hf) |>.symm
  obtain rfl : fn = Tryd.f6 := (Option.some.inj (Tryd.func6.symm.trans hfn)).symm
  refine ⟨by kernel_rfl, fun j t ht => ?_⟩
  have hm : t ∈ Tryd.f6.params := Array.mem_of_getElem? ht
  rw [Tryd.params6] at hm
  have hm' : t = 3 := by simpa using hm
  subst hm'
  exact (show Tryd.prog.wantsStandIn 3 = false by kernel_rfl)

/-- THE CARD. -/
theorem card : Rows.AddrGranulesCardSaid :=
  Claim7.holds_tied_plain_at .later [] _ _ _ _ said (fun _ h => by cases h) (by kernel_rfl) (fun _ h => by cases h) addrGranules_row_tie rfl ⟨rfl, rfl⟩ (by kernel_rfl) rfl plain (by kernel_rfl)
end Go.Proofs.YtlfdfocjkdjhdaaDoor.lawAddrGranules

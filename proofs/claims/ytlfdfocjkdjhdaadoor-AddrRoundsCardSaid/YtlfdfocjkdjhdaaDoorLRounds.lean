/- The statement AddrRounds: a size rounded is a size rounded so, of the same class, and needs as many blocks, for any number. No condition. -/
import Derived.Test.YtlfdfocjkdjhdaaDoorC1
import Derived.Test.YtlfdfocjkdjhdaaDoorCards
import Derived.Test.YtlfdfocjkdjhdaaDoorTie
import Derived.Test.YtlfdfocjkdjhdaaDoorG
namespace Go.Proofs.YtlfdfocjkdjhdaaDoor
open Go.RowKit

set_option maxRecDepth 100000 in
set_option maxHeartbeats 1000000 in
theorem rounds_l {E : Env} {w : World} (hGl : Glob E w) (n : Int) (h0 : 1 ≤ n) (h1 : n ≤ 131072) (hc : (classOf n == 3) = true) :
    Calls Tryd.prog 8 #[.int .i64 n] w fun r w' => r = .returned (.bool true) ∧ Below w.heap.size w w' := by
  have hb : Below w.heap.size w w := Below.refl _ _
  have a0 : 1 ≤ (n + 7) / 8 * 8 := by omega
  have a1 : (n + 7) / 8 * 8 ≤ 131072 := by omega
  have e0 : ((n + 7) / 8 * 8 == ((n + 7) / 8 * 8 + 7) / 8 * 8) = true := by simp <;> omega
  have e1 : n ≤ (n + 7) / 8 * 8 := by omega
  have e2 : (n + 7) / 8 * 8 < n + 8 := by omega
  have e3 : ((n + 7) / 8 * 8 % 8 == 0) = true := by simp
  have e4 : (classOf n == classOf ((n + 7) / 8 * 8)) = true := by simp only [classOf, beq_iff_eq]; omega
  have e5 : ((n + 4095) / 4096 == ((n + 7) / 8 * 8 + 4095) / 4096) = true := by simp <;> omega
  go_enter Tryd.func8, Tryd.ntmps8
  go_wp2_with fail
  refine (shown_any hGl).mono ?_
  rintro e1 w1 ⟨rfl, hb1⟩
  replace hb := hb.trans (hb1.mono hb.size)
  replace hGl := hGl.below hb1
  clear hb1
  go_wp2_with fail
  refine (round_yes hGl n h0 h1).mono ?_
  rintro e2 w2 ⟨rfl, rfl⟩
  go_wp2_with fail
  refine (round_yes hGl _ a0 a1).mono ?_
  rintro e3 w3 ⟨rfl, rfl⟩
  go_wp2_with fail
  refine (class_yes hGl n h0 h1).mono ?_
  rintro e4 w4 ⟨rfl, hb4⟩
  replace hb := hb.trans (hb4.mono hb.size)
  replace hGl := hGl.below hb4
  clear hb4
  go_wp2_with fail
  refine (class_yes hGl _ a0 a1).mono ?_
  rintro e5 w5 ⟨rfl, hb5⟩
  replace hb := hb.trans (hb5.mono hb.size)
  replace hGl := hGl.below hb5
  clear hb5
  go_wp2_with fail
  refine (blocks_yes hGl n h0 h1).mono ?_
  rintro e6 w6 ⟨rfl, rfl⟩
  go_wp2_with fail
  refine (blocks_yes hGl _ a0 a1).mono ?_
  rintro e7 w7 ⟨rfl, rfl⟩
  go_wp2
  go_ret
  exact ⟨rfl, hb⟩

set_option maxRecDepth 100000 in
set_option maxHeartbeats 1000000 in
theorem rounds_s {E : Env} {w : World} (hGl : Glob E w) (n : Int) (h0 : 1 ≤ n) (h1 : n ≤ 131072) (hc : (classOf n == 3) = false) (hk : ((n + 4095) / 4096 == 1) = true) :
    Calls Tryd.prog 8 #[.int .i64 n] w fun r w' => r = .returned (.bool true) ∧ Below w.heap.size w w' := by
  have hb : Below w.heap.size w w := Below.refl _ _
  have a0 : 1 ≤ (n + 7) / 8 * 8 := by omega
  have a1 : (n + 7) / 8 * 8 ≤ 131072 := by omega
  have e0 : ((n + 7) / 8 * 8 == ((n + 7) / 8 * 8 + 7) / 8 * 8) = true := by simp <;> omega
  have e1 : n ≤ (n + 7) / 8 * 8 := by omega
  have e2 : (n + 7) / 8 * 8 < n + 8 := by omega
  have e3 : ((n + 7) / 8 * 8 % 8 == 0) = true := by simp
  have e4 : (classOf n == classOf ((n + 7) / 8 * 8)) = true := by simp only [classOf, beq_iff_eq]; omega
  have e5 : ((n + 4095) / 4096 == ((n + 7) / 8 * 8 + 4095) / 4096) = true := by simp <;> omega
  go_enter Tryd.func8, Tryd.ntmps8
  go_wp2_with fail
  refine (shown_any hGl).mono ?_
  rintro e8 w8 ⟨rfl, hb8⟩
  replace hb := hb.trans (hb8.mono hb.size)
  replace hGl := hGl.below hb8
  clear hb8
  go_wp2_with fail
  refine (round_yes hGl n h0 h1).mono ?_
  rintro e9 w9 ⟨rfl, rfl⟩
  go_wp2_with fail
  refine (round_yes hGl _ a0 a1).mono ?_
  rintro e10 w10 ⟨rfl, rfl⟩
  go_wp2_with fail
  refine (class_yes hGl n h0 h1).mono ?_
  rintro e11 w11 ⟨rfl, hb11⟩
  replace hb := hb.trans (hb11.mono hb.size)
  replace hGl := hGl.below hb11
  clear hb11
  go_wp2_with fail
  refine (class_yes hGl _ a0 a1).mono ?_
  rintro e12 w12 ⟨rfl, hb12⟩
  replace hb := hb.trans (hb12.mono hb.size)
  replace hGl := hGl.below hb12
  clear hb12
  go_wp2_with fail
  refine (blocks_yes hGl n h0 h1).mono ?_
  rintro e13 w13 ⟨rfl, rfl⟩
  go_wp2_with fail
  refine (blocks_yes hGl _ a0 a1).mono ?_
  rintro e14 w14 ⟨rfl, rfl⟩
  go_wp2
  go_ret
  exact ⟨rfl, hb⟩

set_option maxRecDepth 100000 in
set_option maxHeartbeats 1000000 in
theorem rounds_n {E : Env} {w : World} (hGl : Glob E w) (n : Int) (hn : ¬(1 ≤ n ∧ n ≤ 131072)) :
    Calls Tryd.prog 8 #[.int .i64 n] w fun r w' => r = .returned (.bool true) ∧ Below w.heap.size w w' := by
  have hb : Below w.heap.size w w := Below.refl _ _
  have HN := Lib.hid hn
  clear hn
  go_enter Tryd.func8, Tryd.ntmps8
  go_wp2_with fail
  refine (shown_any hGl).mono ?_
  rintro e15 w15 ⟨rfl, hb15⟩
  replace hb := hb.trans (hb15.mono hb.size)
  replace hGl := hGl.below hb15
  clear hb15
  go_wp2_with fail
  refine (round_no hGl n HN.out).mono ?_
  rintro e16 w16 ⟨rfl, hb16⟩
  replace hb := hb.trans (hb16.mono hb.size)
  replace hGl := hGl.below hb16
  clear hb16
  go_wp2_with fail
  refine (round_no hGl 0 (by decide)).mono ?_
  rintro e17 w17 ⟨rfl, hb17⟩
  replace hb := hb.trans (hb17.mono hb.size)
  replace hGl := hGl.below hb17
  clear hb17
  go_wp2_with fail
  refine (class_no hGl n HN.out).mono ?_
  rintro e18 w18 ⟨rfl, hb18⟩
  replace hb := hb.trans (hb18.mono hb.size)
  replace hGl := hGl.below hb18
  clear hb18
  go_wp2_with fail
  refine (class_no hGl 0 (by decide)).mono ?_
  rintro e19 w19 ⟨rfl, hb19⟩
  replace hb := hb.trans (hb19.mono hb.size)
  replace hGl := hGl.below hb19
  clear hb19
  go_wp2_with fail
  refine (blocks_no hGl n HN.out).mono ?_
  rintro e20 w20 ⟨rfl, hb20⟩
  replace hb := hb.trans (hb20.mono hb.size)
  replace hGl := hGl.below hb20
  clear hb20
  go_wp2_with fail
  refine (blocks_no hGl 0 (by decide)).mono ?_
  rintro e21 w21 ⟨rfl, hb21⟩
  replace hb := hb.trans (hb21.mono hb.size)
  replace hGl := hGl.below hb21
  clear hb21
  go_wp2
  go_ret
  exact ⟨rfl, hb⟩

theorem rounds {E : Env} {w : World} (hGl : Glob E w) (n : Int) :
    Calls Tryd.prog 8 #[.int .i64 n] w fun r w' => r = .returned (.bool true) ∧ Below w.heap.size w w' := by
  by_cases h : 1 ≤ n ∧ n ≤ 131072
  · cases hc : (classOf n == 3)
    · exact rounds_s hGl n h.1 h.2 hc (by simp only [classOf, beq_iff_eq, beq_eq_false_iff_ne] at *; omega)
    · exact rounds_l hGl n h.1 h.2 hc
  · exact rounds_n hGl n h
end Go.Proofs.YtlfdfocjkdjhdaaDoor

namespace Go.Proofs.YtlfdfocjkdjhdaaDoor.lawAddrRounds
open Go.ChangeShapes Go.WideShapes Go.ChangeAt Go.RowKit
theorem told (H : Type) (enc : TypeId × Value → H) (W : World) (base : Nat) (args : Array Value) (ds gs : List (DataW H)) (before : List MemPlace)
    (hval : ∀ (j : Nat) t v, Tryd.f8.params[j]? = some t → args[j]? = some v → Value.okWide Tryd.prog W .any base t v)
    (hW : DataW.Whole enc Tryd.prog Tryd.f8.params.toList Rows.addrRoundsSpec.vars false W args.toList ds gs before) (hL : laidMetH Tryd.prog laidL W) :
    Calls Tryd.prog 8 args W fun e W' => ∃ v, e = .returned v ∧ Rows.addrRoundsSpec.post enc Tryd.prog Tryd.f8 false true false false W args v W' := by
  have hW' := hW
  obtain ⟨p, q, hA0, hV, rfl, hfz, hnd⟩ := hW
  have hA : DataW.TrodAll enc Tryd.prog W 0 (fun _ => true) true Tryd.f8.params.toList args.toList ds p := hA0
  rw [Tryd.params8] at hA hval
  obtain ⟨v0, vs0, d0, ds0, p0, q0, hargs, rfl, rfl, h0, r0⟩ := trodAll_cons hA
  obtain ⟨rfl, rfl, rfl⟩ := trodAll_nil r0
  obtain rfl : args = #[v0] := by cases args; simp_all
  obtain ⟨rfl, rfl⟩ := trodVars_none hV
  obtain ⟨x0, rfl, rfl, rfl, wx0⟩ := open_int Tryd.underlying3 (hval 0 3 v0 rfl rfl) h0
  clear hA0
  simp only [List.append_nil] at hW'
  obtain ⟨E, hGl⟩ := glob_of_laid hL
  refine (rounds hGl x0).mono fun e W' ⟨he, hb⟩ => ?_
  subst he
  exact ⟨_, rfl, _, _, _, [], _, [], hW', trodAll_cons_mk (shut_bool Tryd.underlying4 _) trodAll_mk0, (trodAll_cons_mk (shut_int Tryd.underlying3 wx0) trodAll_mk0), rfl, hb.frame _, fun h => by cases h⟩

set_option maxRecDepth 100000 in
theorem lifted (os : Os) (started : os.Started) (H : Type) (enc : TypeId × Value → H) :
    ReturnsInHanded {} Tryd.checked os 8 .any (fun w args => (Rows.addrRoundsSpec.pre enc Tryd.prog Tryd.f8 [] false w args ∧ laidMetH Tryd.prog laidL w) ∧ sizedMet enc Tryd.prog Tryd.f8 (OpenSpec.ofChange Rows.addrRoundsSpec) false w args)
      (Rows.addrRoundsSpec.post enc Tryd.prog Tryd.f8 false true false false) := by
  refine returnsInHanded_of_change_and (C := Tryd.checked) (X := fun w _ => laidMetH Tryd.prog laidL w) (fun _ _ _ hh h => h.of_heap hh) own started (by kernel_rfl) Tryd.func8
    (ChangeSpec.witness_shaped (enc := enc) (C := Tryd.checked) (os := os) (X := fun w _ => laidMetH Tryd.prog laidL w) false (World.doorLaid Tryd.prog 74 os) #[.int .i64 0] 8 rfl (World.shaped_of_RefB (by kernel_rfl) (by kernel_rfl)) (by kernel_rfl) (by kernel_rfl) (by kernel_rfl) (door_met os _)) ?_
  intro W base args ds gs before hval hW _ _ hL _
  exact told H enc W base args ds gs before hval hW hL

theorem said : Rows.AddrRoundsSaid :=
  OpenClaim.holds_of_wide 8 Tryd.f8 rfl rfl rfl rfl rfl rfl rfl ⟨rfl, rfl, rfl, rfl, rfl⟩ rfl rfl rfl rfl rfl (by kernel_rfl) Tryd.func8 (by kernel_rfl)
    (of_decide_eq_true (by kernel_rfl)) (by unfold Func.isWrapper; first | (rw [if_pos (by decide +kernel)]; kernel_rfl) | (rw [if_neg (by decide +kernel)]; exact ⟨rfl, rfl⟩))
    (fun os started H enc _ => lifted os started H enc)

theorem plain (f : FuncId) (fn : Func) (hf : Tryd.pinned.checked.prog.funcNamed "selion/selionlaw01.AddrRounds" = some f) (hfn : Tryd.pinned.checked.prog.funcs[f]? = some fn) :
    true = Tryd.pinned.checked.prog.looks [] ∧ ∀ (j : Nat) t, fn.params[j]? = some t → Tryd.pinned.checked.prog.wantsStandIn t = false := by
  obtain rfl : f = 8 := Option.some.inj ((show Tryd.prog.funcNamed "selion/selionlaw01.AddrRounds" = some 8 by kernel_rfl).symm.trans hf) |>.symm
  obtain rfl : fn = Tryd.f8 := (Option.some.inj (Tryd.func8.symm.trans hfn)).symm
  refine ⟨by kernel_rfl, fun j t ht => ?_⟩
  have hm : t ∈ Tryd.f8.params := Array.mem_of_getElem? ht
  rw [Tryd.params8] at hm
  have hm' : t = 3 := by simpa using hm
  subst hm'
  exact (show Tryd.prog.wantsStandIn 3 = false by kernel_rfl)

/-- THE CARD. -/
theorem card : Rows.AddrRoundsCardSaid :=
  Claim7.holds_tied_plain_at .later [] _ _ _ _ said (fun _ h => by cases h) (by kernel_rfl) (fun _ h => by cases h) addrRounds_row_tie rfl ⟨rfl, rfl⟩ (by kernel_rfl) rfl plain (by kernel_rfl)
end Go.Proofs.YtlfdfocjkdjhdaaDoor.lawAddrRounds

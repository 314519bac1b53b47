/- The statement AddrSpans: bytes lie in the lines of their first and their last one, for any two numbers. No condition. -/
import Derived.Test.YtlfdfocjkdjhdaaDoorC1
import Derived.Test.YtlfdfocjkdjhdaaDoorCards
import Derived.Test.YtlfdfocjkdjhdaaDoorTie
import Derived.Test.YtlfdfocjkdjhdaaDoorG
namespace Go.Proofs.YtlfdfocjkdjhdaaDoor
open Go.RowKit

set_option maxRecDepth 100000 in
set_option maxHeartbeats 1000000 in
theorem spans_y {E : Env} {w : World} (hGl : Glob E w) (a n : Int) (h0 : 0 ≤ a) (h1 : a < 131072) (h2 : 1 ≤ n) (h3 : n ≤ 131072 - a) :
    Calls Tryd.prog 7 #[.int .i64 a, .int .i64 n] w fun r w' => r = .returned (.bool true) ∧ Below w.heap.size w w' := by
  have hb : Below w.heap.size w w := Below.refl _ _
  have hR : rightB a = true := by simp [rightB]; omega
  have HR := Lib.hid hR
  clear hR
  have k0 : 0 ≤ a + n - 1 := by omega
  have k1 : a + n - 1 < 131072 := by omega
  have e1 : (a / 128 == 32 * (a / 4096) + a % 4096 / 128) = true := by simp <;> omega
  have e2 : ((a + n - 1) / 128 == 32 * ((a + n - 1) / 4096) + (a + n - 1) % 4096 / 128) = true := by simp <;> omega
  have e3 : a / 128 ≤ (a + n - 1) / 128 := by omega
  go_enter Tryd.func7, Tryd.ntmps7
  go_wp2_with fail
  refine (shown_any hGl).mono ?_
  rintro e1 w1 ⟨rfl, hb1⟩
  replace hb := hb.trans (hb1.mono hb.size)
  replace hGl := hGl.below hb1
  clear hb1
  go_wp2_with fail
  refine (span_yes hGl a n HR.out h0 h1 h2 h3).mono ?_
  rintro e2 w2 ⟨rfl, hb2⟩
  replace hb := hb.trans (hb2.mono hb.size)
  replace hGl := hGl.below hb2
  clear hb2
  go_wp2_with fail
  refine (split_yes hGl a h0 h1).mono ?_
  rintro e3 w3 ⟨rfl, hb3⟩
  replace hb := hb.trans (hb3.mono hb.size)
  replace hGl := hGl.below hb3
  clear hb3
  go_wp2_with fail
  refine (split_yes hGl _ k0 k1).mono ?_
  rintro e4 w4 ⟨rfl, hb4⟩
  replace hb := hb.trans (hb4.mono hb.size)
  replace hGl := hGl.below hb4
  clear hb4
  go_wp2
  go_ret
  exact ⟨rfl, hb⟩

set_option maxRecDepth 100000 in
set_option maxHeartbeats 1000000 in
theorem spans_n {E : Env} {w : World} (hGl : Glob E w) (a n : Int) (hn : ¬(0 ≤ a ∧ a < 131072 ∧ 1 ≤ n ∧ n ≤ 131072 - a)) :
    Calls Tryd.prog 7 #[.int .i64 a, .int .i64 n] w fun r w' => r = .returned (.bool true) ∧ Below w.heap.size w w' := by
  have hb : Below w.heap.size w w := Below.refl _ _
  have HN := Lib.hid hn
  clear hn
  go_enter Tryd.func7, Tryd.ntmps7
  go_wp2_with fail
  refine (shown_any hGl).mono ?_
  rintro e5 w5 ⟨rfl, hb5⟩
  replace hb := hb.trans (hb5.mono hb.size)
  replace hGl := hGl.below hb5
  clear hb5
  go_wp2_with fail
  refine (span_no hGl a n HN.out).mono ?_
  rintro e6 w6 ⟨rfl, hb6⟩
  replace hb := hb.trans (hb6.mono hb.size)
  replace hGl := hGl.below hb6
  clear hb6
  go_wp2
  go_ret
  exact ⟨rfl, hb⟩

theorem spans {E : Env} {w : World} (hGl : Glob E w) (a n : Int) :
    Calls Tryd.prog 7 #[.int .i64 a, .int .i64 n] w fun r w' => r = .returned (.bool true) ∧ Below w.heap.size w w' := by
  by_cases h : 0 ≤ a ∧ a < 131072 ∧ 1 ≤ n ∧ n ≤ 131072 - a
  · exact spans_y hGl a n h.1 h.2.1 h.2.2.1 h.2.2.2
  · exact spans_n hGl a n h
end Go.Proofs.YtlfdfocjkdjhdaaDoor

namespace Go.Proofs.YtlfdfocjkdjhdaaDoor.lawAddrSpans
open Go.ChangeShapes Go.WideShapes Go.ChangeAt Go.RowKit
theorem told (H : Type) (enc : TypeId × Value → H) (W : World) (base : Nat) (args : Array Value) (ds gs : List (DataW H)) (before : List MemPlace)
    (hval : ∀ (j : Nat) t v, Tryd.f7.params[j]? = some t → args[j]? = some v → Value.okWide Tryd.prog W .any base t v)
    (hW : DataW.Whole enc Tryd.prog Tryd.f7.params.toList Rows.addrSpansSpec.vars false W args.toList ds gs before) (hL : laidMetH Tryd.prog laidL W) :
    Calls Tryd.prog 7 args W fun e W' => ∃ v, e = .returned v ∧ Rows.addrSpansSpec.post enc Tryd.prog Tryd.f7 false true false false W args v W' := by
  have hW' := hW
  obtain ⟨p, q, hA0, hV, rfl, hfz, hnd⟩ := hW
  have hA : DataW.TrodAll enc Tryd.prog W 0 (fun _ => true) true Tryd.f7.params.toList args.toList ds p := hA0
  rw [Tryd.params7] at hA hval
  obtain ⟨v0, vs0, d0, ds0, p0, q0, hargs, rfl, rfl, h0, r0⟩ := trodAll_cons hA
  obtain ⟨v1, vs1, d1, ds1, p1, q1, rfl, rfl, rfl, h1, r1⟩ := trodAll_cons r0
  obtain ⟨rfl, rfl, rfl⟩ := trodAll_nil r1
  obtain rfl : args = #[v0, v1] := by cases args; simp_all
  obtain ⟨rfl, rfl⟩ := trodVars_none hV
  obtain ⟨x0, rfl, rfl, rfl, wx0⟩ := open_int Tryd.underlying3 (hval 0 3 v0 rfl rfl) h0
  obtain ⟨x1, rfl, rfl, rfl, wx1⟩ := open_int Tryd.underlying3 (hval 1 3 v1 rfl rfl) h1
  clear hA0
  simp only [List.append_nil] at hW'
  obtain ⟨E, hGl⟩ := glob_of_laid hL
  refine (spans hGl x0 x1).mono fun e W' ⟨he, hb⟩ => ?_
  subst he
  exact ⟨_, rfl, _, _, _, [], _, [], hW', trodAll_cons_mk (shut_bool Tryd.underlying4 _) trodAll_mk0, (trodAll_cons_mk (shut_int Tryd.underlying3 wx0) (trodAll_cons_mk (shut_int Tryd.underlying3 wx1) trodAll_mk0)), rfl, hb.frame _, fun h => by cases h⟩

set_option maxRecDepth 100000 in
theorem lifted (os : Os) (started : os.Started) (H : Type) (enc : TypeId × Value → H) :
    ReturnsInHanded {} Tryd.checked os 7 .any (fun w args => (Rows.addrSpansSpec.pre enc Tryd.prog Tryd.f7 [] false w args ∧ laidMetH Tryd.prog laidL w) ∧ sizedMet enc Tryd.prog Tryd.f7 (OpenSpec.ofChange Rows.addrSpansSpec) false w args)
      (Rows.addrSpansSpec.post enc Tryd.prog Tryd.f7 false true false false) := by
  refine returnsInHanded_of_change_and (C := Tryd.checked) (X := fun w _ => laidMetH Tryd.prog laidL w) (fun _ _ _ hh h => h.of_heap hh) own started (by kernel_rfl) Tryd.func7
    (ChangeSpec.witness_shaped (enc := enc) (C := Tryd.checked) (os := os) (X := fun w _ => laidMetH Tryd.prog laidL w) false (World.doorLaid Tryd.prog 74 os) #[.int .i64 0, .int .i64 0] 8 rfl (World.shaped_of_RefB (by kernel_rfl) (by kernel_rfl)) (by kernel_rfl) (by kernel_rfl) (by kernel_rfl) (door_met os _)) ?_
  intro W base args ds gs before hval hW _ _ hL _
  exact told H enc W base args ds gs before hval hW hL

theorem said : Rows.AddrSpansSaid :=
  OpenClaim.holds_of_wide 7 Tryd.f7 rfl rfl rfl rfl rfl rfl rfl ⟨rfl, rfl, rfl, rfl, rfl⟩ rfl rfl rfl rfl rfl (by kernel_rfl) Tryd.func7 (by kernel_rfl)
    (of_decide_eq_true (by kernel_rfl)) (by unfold Func.isWrapper; first | (rw [if_pos (by decide +kernel)]; kernel_rfl) | (rw [if_neg (by decide +kernel)]; exact ⟨rfl, rfl⟩))
    (fun os started H enc _ => lifted os started H enc)

theorem plain (f : FuncId) (fn : Func) (hf : Tryd.pinned.checked.prog.funcNamed "selion/selionlaw01.AddrSpans" = some f) (hfn : Tryd.pinned.checked.prog.funcs[f]? = some fn) :
    true = Tryd.pinned.checked.prog.looks [] ∧ ∀ (j : Nat) t, fn.params[j]? = some t → Tryd.pinned.checked.prog.wantsStandIn t = false := by
  obtain rfl : f = 7 := Option.some.inj ((show Tryd.prog.funcNamed "selion/selionlaw01.AddrSpans" = some 7 by kernel_rfl).symm.trans hf) |>.symm
  obtain rfl : fn = Tryd.f7 := (Option.some.inj (Tryd.func7.symm.trans hfn)).symm
  refine ⟨by kernel_rfl, fun j t ht => ?_⟩
  have hm : t ∈ Tryd.f7.params := Array.mem_of_getElem? ht
  rw [Tryd.params7] at hm
  have hm' : t = 3 := by simpa using hm
  subst hm'
  exact (show Tryd.prog.wantsStandIn 3 = false by kernel_rfl)

/-- THE CARD. -/
theorem card : Rows.AddrSpansCardSaid :=
  Claim7.holds_tied_plain_at .later [] _ _ _ _ said (fun _ h => by cases h) (by kernel_rfl) (fun _ h => by cases h) addrSpans_row_tie rfl ⟨rfl, rfl⟩ (by kernel_rfl) rfl plain (by kernel_rfl)
end Go.Proofs.YtlfdfocjkdjhdaaDoor.lawAddrSpans

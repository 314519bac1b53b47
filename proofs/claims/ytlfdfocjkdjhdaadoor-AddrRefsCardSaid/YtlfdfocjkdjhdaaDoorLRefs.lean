/- The statement AddrRefs: references of addresses, addresses of references, lines that bytes lie in: the program answers as the document does, for any three numbers. No condition. -/
import Derived.Test.YtlfdfocjkdjhdaaDoorC1
import Derived.Test.YtlfdfocjkdjhdaaDoorCards
import Derived.Test.YtlfdfocjkdjhdaaDoorTie
import Derived.Test.YtlfdfocjkdjhdaaDoorG
namespace Go.Proofs.YtlfdfocjkdjhdaaDoor
open Go.RowKit

/-! The answers as numbers of no further shape: the program's and the document's are one. -/
def refN (a : Int) : Int := if 0 ≤ a ∧ a < 131072 ∧ a % 8 = 0 then a / 8 + 1 else 0
def refE (a : Int) : Int := if 0 ≤ a ∧ a < 131072 ∧ a % 8 = 0 then 0 else 10
def addrN (n : Int) : Int := if 1 ≤ n ∧ n ≤ 16384 then (n - 1) * 8 else 0
def addrE (n : Int) : Int := if 1 ≤ n ∧ n ≤ 16384 then 0 else 12
def spanF (a n : Int) : Int := if 0 ≤ a ∧ a < 131072 ∧ 1 ≤ n ∧ n ≤ 131072 - a then a / 128 else 0
def spanT (a n : Int) : Int := if 0 ≤ a ∧ a < 131072 ∧ 1 ≤ n ∧ n ≤ 131072 - a then (a + n - 1) / 128 else 0
def spanE (a n : Int) : Int := if 0 ≤ a ∧ a < 131072 ∧ 1 ≤ n ∧ n ≤ 131072 - a then 0 else 10

theorem ref_ {E : Env} {w : World} (h : Glob E w) (a : Int) : Calls Tryd.prog 24 #[.int .i64 a] w fun r w' => r = .returned (.tuple #[.int .i64 (refN a), .int .i64 (refE a)]) ∧ Below w.heap.size w w' := by
  by_cases hc : 0 ≤ a ∧ a < 131072 ∧ a % 8 = 0
  · have := ref_yes h a hc.1 hc.2.1 hc.2.2; simpa [refN, refE, hc] using this
  · have := ref_no h a hc; simpa [refN, refE, hc] using this
theorem rref_ (a : Int) (w : World) : Calls Tryd.prog 27 #[.int .i64 a] w fun r w' => r = .returned (.tuple #[.int .i64 (refN a), .int .i64 (refE a)]) ∧ w = w' := by
  by_cases hc : 0 ≤ a ∧ a < 131072 ∧ a % 8 = 0
  · have := refRef_yes a w hc.1 hc.2.1 hc.2.2; simpa [refN, refE, hc] using this
  · have := refRef_no a w hc; simpa [refN, refE, hc] using this
theorem addr_ {E : Env} {w : World} (h : Glob E w) (a : Int) : Calls Tryd.prog 25 #[.int .i64 a] w fun r w' => r = .returned (.tuple #[.int .i64 (addrN a), .int .i64 (addrE a)]) ∧ Below w.heap.size w w' := by
  by_cases hc : 1 ≤ a ∧ a ≤ 16384
  · refine (addr_yes h a hc.1 hc.2).mono ?_
    rintro r w' ⟨rfl, rfl⟩
    exact ⟨by simp [addrN, addrE, hc], Below.refl _ _⟩
  · have := addr_no h a hc; simpa [addrN, addrE, hc] using this
theorem raddr_ (a : Int) (w : World) : Calls Tryd.prog 28 #[.int .i64 a] w fun r w' => r = .returned (.tuple #[.int .i64 (addrN a), .int .i64 (addrE a)]) ∧ w = w' := by
  by_cases hc : 1 ≤ a ∧ a ≤ 16384
  · have := refAddr_yes a w hc.1 hc.2; simpa [addrN, addrE, hc] using this
  · have := refAddr_no a w hc; simpa [addrN, addrE, hc] using this
theorem span_ {E : Env} {w : World} (h : Glob E w) (a n : Int) : Calls Tryd.prog 26 #[.int .i64 a, .int .i64 n] w fun r w' => r = .returned (.tuple #[.int .i64 (spanF a n), .int .i64 (spanT a n), .int .i64 (spanE a n)]) ∧ Below w.heap.size w w' := by
  by_cases hc : 0 ≤ a ∧ a < 131072 ∧ 1 ≤ n ∧ n ≤ 131072 - a
  · have := span_yes h a n (by simp [rightB]; omega) hc.1 hc.2.1 hc.2.2.1 hc.2.2.2; simpa [spanF, spanT, spanE, hc] using this
  · have := span_no h a n hc; simpa [spanF, spanT, spanE, hc] using this
theorem rspan_ (a n : Int) (w : World) : Calls Tryd.prog 29 #[.int .i64 a, .int .i64 n] w fun r w' => r = .returned (.tuple #[.int .i64 (spanF a n), .int .i64 (spanT a n), .int .i64 (spanE a n)]) ∧ w = w' := by
  by_cases hc : 0 ≤ a ∧ a < 131072 ∧ 1 ≤ n ∧ n ≤ 131072 - a
  · have := refSpan_yes a n w hc.1 hc.2.1 hc.2.2.1 hc.2.2.2; simpa [spanF, spanT, spanE, hc] using this
  · have := refSpan_no a n w hc; simpa [spanF, spanT, spanE, hc] using this

set_option maxRecDepth 100000 in
set_option maxHeartbeats 1000000 in
theorem refs {E : Env} {w : World} (hGl : Glob E w) (a b n : Int) :
    Calls Tryd.prog 10 #[.int .i64 a, .int .i64 b, .int .i64 n] w fun r w' => r = .returned (.bool true) ∧ Below w.heap.size w w' := by
  have hb : Below w.heap.size w w := Below.refl _ _
  go_enter Tryd.func10, Tryd.ntmps10
  go_wp2_with fail
  refine (shown_any hGl).mono ?_
  rintro e1 w1 ⟨rfl, hb1⟩
  replace hb := hb.trans (hb1.mono hb.size)
  replace hGl := hGl.below hb1
  clear hb1
  go_wp2_with fail
  refine (ref_ hGl a).mono ?_
  rintro e2 w2 ⟨rfl, hb2⟩
  replace hb := hb.trans (hb2.mono hb.size)
  replace hGl := hGl.below hb2
  clear hb2
  go_wp2_with fail
  refine (rref_ a _).mono ?_
  rintro e3 w3 ⟨rfl, rfl⟩
  go_wp2_with fail
  refine (addr_ hGl b).mono ?_
  rintro e4 w4 ⟨rfl, hb4⟩
  replace hb := hb.trans (hb4.mono hb.size)
  replace hGl := hGl.below hb4
  clear hb4
  go_wp2_with fail
  refine (raddr_ b _).mono ?_
  rintro e5 w5 ⟨rfl, rfl⟩
  go_wp2_with fail
  refine (span_ hGl a n).mono ?_
  rintro e6 w6 ⟨rfl, hb6⟩
  replace hb := hb.trans (hb6.mono hb.size)
  replace hGl := hGl.below hb6
  clear hb6
  go_wp2_with fail
  refine (rspan_ a n _).mono ?_
  rintro e7 w7 ⟨rfl, rfl⟩
  go_wp2
  go_ret
  exact ⟨rfl, hb⟩
end Go.Proofs.YtlfdfocjkdjhdaaDoor

namespace Go.Proofs.YtlfdfocjkdjhdaaDoor.lawAddrRefs
open Go.ChangeShapes Go.WideShapes Go.ChangeAt Go.RowKit
theorem told (H : Type) (enc : TypeId × Value → H) (W : World) (base : Nat) (args : Array Value) (ds gs : List (DataW H)) (before : List MemPlace)
    (hval : ∀ (j : Nat) t v, Tryd.f10.params[j]? = some t → args[j]? = some v → Value.okWide Tryd.prog W .any base t v)
    (hW : DataW.Whole enc Tryd.prog Tryd.f10.params.toList Rows.addrRefsSpec.vars false W args.toList ds gs before) (hL : laidMetH Tryd.prog laidL W) :
    Calls Tryd.prog 10 args W fun e W' => ∃ v, e = .returned v ∧ Rows.addrRefsSpec.post enc Tryd.prog Tryd.f10 false true false false W args v W' := by
  have hW' := hW
  obtain ⟨p, q, hA0, hV, rfl, hfz, hnd⟩ := hW
  have hA : DataW.TrodAll enc Tryd.prog W 0 (fun _ => true) true Tryd.f10.params.toList args.toList ds p := hA0
  rw [Tryd.params10] at hA hval
  obtain ⟨v0, vs0, d0, ds0, p0, q0, hargs, rfl, rfl, h0, r0⟩ := trodAll_cons hA
  obtain ⟨v1, vs1, d1, ds1, p1, q1, rfl, rfl, rfl, h1, r1⟩ := trodAll_cons r0
  obtain ⟨v2, vs2, d2, ds2, p2, q2, rfl, rfl, rfl, h2, r2⟩ := trodAll_cons r1
  obtain ⟨rfl, rfl, rfl⟩ := trodAll_nil r2
  obtain rfl : args = #[v0, v1, v2] := by cases args; simp_all
  obtain ⟨rfl, rfl⟩ := trodVars_none hV
  obtain ⟨x0, rfl, rfl, rfl, wx0⟩ := open_int Tryd.underlying3 (hval 0 3 v0 rfl rfl) h0
  obtain ⟨x1, rfl, rfl, rfl, wx1⟩ := open_int Tryd.underlying3 (hval 1 3 v1 rfl rfl) h1
  obtain ⟨x2, rfl, rfl, rfl, wx2⟩ := open_int Tryd.underlying3 (hval 2 3 v2 rfl rfl) h2
  clear hA0
  simp only [List.append_nil] at hW'
  obtain ⟨E, hGl⟩ := glob_of_laid hL
  refine (refs hGl x0 x1 x2).mono fun e W' ⟨he, hb⟩ => ?_
  subst he
  exact ⟨_, rfl, _, _, _, [], _, [], hW', trodAll_cons_mk (shut_bool Tryd.underlying4 _) trodAll_mk0, (trodAll_cons_mk (shut_int Tryd.underlying3 wx0) (trodAll_cons_mk (shut_int Tryd.underlying3 wx1) (trodAll_cons_mk (shut_int Tryd.underlying3 wx2) trodAll_mk0))), rfl, hb.frame _, fun h => by cases h⟩

set_option maxRecDepth 100000 in
theorem lifted (os : Os) (started : os.Started) (H : Type) (enc : TypeId × Value → H) :
    ReturnsInHanded {} Tryd.checked os 10 .any (fun w args => (Rows.addrRefsSpec.pre enc Tryd.prog Tryd.f10 [] false w args ∧ laidMetH Tryd.prog laidL w) ∧ sizedMet enc Tryd.prog Tryd.f10 (OpenSpec.ofChange Rows.addrRefsSpec) false w args)
      (Rows.addrRefsSpec.post enc Tryd.prog Tryd.f10 false true false false) := by
  refine returnsInHanded_of_change_and (C := Tryd.checked) (X := fun w _ => laidMetH Tryd.prog laidL w) (fun _ _ _ hh h => h.of_heap hh) own started (by kernel_rfl) Tryd.func10
    (ChangeSpec.witness_shaped (enc := enc) (C := Tryd.checked) (os := os) (X := fun w _ => laidMetH Tryd.prog laidL w) false (World.doorLaid Tryd.prog 74 os) #[.int .i64 0, .int .i64 0, .int .i64 0] 8 rfl (World.shaped_of_RefB (by kernel_rfl) (by kernel_rfl)) (by kernel_rfl) (by kernel_rfl) (by kernel_rfl) (door_met os _)) ?_
  intro W base args ds gs before hval hW _ _ hL _
  exact told H enc W base args ds gs before hval hW hL

theorem said : Rows.AddrRefsSaid :=
  OpenClaim.holds_of_wide 10 Tryd.f10 rfl rfl rfl rfl rfl rfl rfl ⟨rfl, rfl, rfl, rfl, rfl⟩ rfl rfl rfl rfl rfl (by kernel_rfl) Tryd.func10 (by kernel_rfl)
    (of_decide_eq_true (by kernel_rfl)) (by unfold Func.isWrapper; first | (rw [if_pos (by decide +kernel)]; kernel_rfl) | (rw [if_neg (by decide +kernel)]; exact ⟨rfl, rfl⟩))
    (fun os started H enc _ => lifted os started H enc)

theorem plain (f : FuncId) (fn : Func) (hf : Tryd.pinned.checked.prog.funcNamed "selion/selionlaw01.AddrRefs" = some f) (hfn : Tryd.pinned.checked.prog.funcs[f]? = some fn) :
    true = Tryd.pinned.checked.prog.looks [] ∧ ∀ (j : Nat) t, fn.params[j]? = some t → Tryd.pinned.checked.prog.wantsStandIn t = false := by
  obtain rfl : f = 10 := Option.some.inj ((show Tryd.prog.funcNamed "selion/selionlaw01.AddrRefs" = some 10 by kernel_rfl).symm.trans hf) |>.symm
  obtain rfl : fn = Tryd.f10 := (Option.some.inj (Tryd.func10.symm.trans hfn)).symm
  refine ⟨by kernel_rfl, fun j t ht => ?_⟩
  have hm : t ∈ Tryd.f10.params := Array.mem_of_getElem? ht
  rw [Tryd.params10] at hm
  have hm' : t = 3 := by simpa using hm
  subst hm'
  exact (show Tryd.prog.wantsStandIn 3 = false by kernel_rfl)

/-- THE CARD. -/
theorem card : Rows.AddrRefsCardSaid :=
  Claim7.holds_tied_plain_at .later [] _ _ _ _ said (fun _ h => by cases h) (by kernel_rfl) (fun _ h => by cases h) addrRefs_row_tie rfl ⟨rfl, rfl⟩ (by kernel_rfl) rfl plain (by kernel_rfl)
end Go.Proofs.YtlfdfocjkdjhdaaDoor.lawAddrRefs

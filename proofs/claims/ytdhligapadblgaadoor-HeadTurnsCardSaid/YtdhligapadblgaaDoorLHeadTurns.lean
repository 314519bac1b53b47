/- HeadTurns holds of all numbers: the law's own text walked, and the card. -/
import Derived.Test.YtdhligapadblgaaDoorG6
import Derived.Test.YtdhligapadblgaaDoorCards
import Derived.Test.YtdhligapadblgaaDoorTie
namespace Go.Proofs.YtdhligapadblgaaDoor
open Go.RowKit
attribute [local go_sem ↓] Go.wp_at_zero Go.wp_at_succ

theorem turnI_out {a : Int} (h : ¬ (0 ≤ a ∧ a ≤ 255)) : turnI a = 0 := by
  unfold turnI
  have : hasP 0 255 a = false := by unfold hasP; rw [Bool.and_eq_false_iff, decide_eq_false_iff_not, decide_eq_false_iff_not]; omega
  rw [this]; rfl
theorem turnI_in {a : Int} (h : 0 ≤ a ∧ a ≤ 255) : turnI a = (a + 1) % 256 := by
  unfold turnI
  have : hasP 0 255 a = true := by unfold hasP; rw [decide_eq_true h.1, decide_eq_true h.2]; rfl
  rw [this]; rfl

set_option maxHeartbeats 1000000 in
set_option maxRecDepth 20000 in
theorem turns_law {E : EnvH} {w : World} (hG : GlobH E w) (a b : Int) :
    Calls Tryd.prog 5 #[.int .i64 a, .int .i64 b] w fun r w' => r = .returned (.bool true) ∧ Below w.heap.size w w' := by
  have m1 := shown_anyH hG
  have HG := Lib.hid hG
  clear hG
  go_enter Tryd.func5, Tryd.ntmps5
  go_wp2_with fail
  refine m1.mono ?_
  rintro r w1 ⟨rfl, hb1⟩
  have T := turn_anyH (HG.out.below hb1) a
  clear m1
  go_wp2_with fail
  refine T.mono ?_
  rintro r w2 ⟨rfl, hb2⟩
  have hB2 := blH hb1 hb2
  have T := turn_anyH (HG.out.below hB2) b
  clear hb1 hb2
  go_wp2_with fail
  refine T.mono ?_
  rintro r w3 ⟨rfl, hb3⟩
  have hB3 := blH hB2 hb3
  clear hB2 hb3 T HG
  by_cases ha0 : a < 0
  · have xa := turnI_out (a := a) (by omega)
    have g0 : decide (a < 0) = true := decide_eq_true ha0
    have g1 : decide (0 ≤ a) = false := decide_eq_false (by omega)
    rw [xa]
    by_cases hb0 : b < 0
    · have xb := turnI_out (a := b) (by omega)
      rw [xb]
      have g2 : decide (0 ≤ b) = false := decide_eq_false (by omega)
      go_wp2; go_ret; exact ⟨rfl, hB3⟩
    · have g2 : decide (0 ≤ b) = true := decide_eq_true (by omega)
      by_cases hb1 : 255 < b
      · have xb := turnI_out (a := b) (by omega)
        rw [xb]
        have g3 : decide (b ≤ 255) = false := decide_eq_false (by omega)
        go_wp2; go_ret; exact ⟨rfl, hB3⟩
      · have g3 : decide (b ≤ 255) = true := decide_eq_true (by omega)
        go_wp2; go_ret; exact ⟨rfl, hB3⟩
  · have g0 : decide (a < 0) = false := decide_eq_false ha0
    have g1 : decide (0 ≤ a) = true := decide_eq_true (by omega)
    by_cases ha1 : 255 < a
    · have xa := turnI_out (a := a) (by omega)
      have g4 : decide (255 < a) = true := decide_eq_true ha1
      have g5 : decide (a ≤ 255) = false := decide_eq_false (by omega)
      rw [xa]
      by_cases hb0 : b < 0
      · have xb := turnI_out (a := b) (by omega)
        rw [xb]
        have g2 : decide (0 ≤ b) = false := decide_eq_false (by omega)
        go_wp2; go_ret; exact ⟨rfl, hB3⟩
      · have g2 : decide (0 ≤ b) = true := decide_eq_true (by omega)
        by_cases hb1 : 255 < b
        · have xb := turnI_out (a := b) (by omega)
          rw [xb]
          have g3 : decide (b ≤ 255) = false := decide_eq_false (by omega)
          go_wp2; go_ret; exact ⟨rfl, hB3⟩
        · have g3 : decide (b ≤ 255) = true := decide_eq_true (by omega)
          go_wp2; go_ret; exact ⟨rfl, hB3⟩
    · have g4 : decide (255 < a) = false := decide_eq_false ha1
      have g5 : decide (a ≤ 255) = true := decide_eq_true (by omega)
      by_cases hb0 : b < 0
      · have xb := turnI_out (a := b) (by omega)
        rw [xb]
        have g2 : decide (b < 0) = true := decide_eq_true hb0
        have g3 : decide (0 ≤ b) = false := decide_eq_false (by omega)
        go_wp2; go_ret; exact ⟨rfl, hB3⟩
      · have g2 : decide (b < 0) = false := decide_eq_false hb0
        have g6 : decide (0 ≤ b) = true := decide_eq_true (by omega)
        by_cases hb1 : 255 < b
        · have xb := turnI_out (a := b) (by omega)
          rw [xb]
          have g3 : decide (255 < b) = true := decide_eq_true hb1
          have g7 : decide (b ≤ 255) = false := decide_eq_false (by omega)
          go_wp2; go_ret; exact ⟨rfl, hB3⟩
        · have g3 : decide (255 < b) = false := decide_eq_false hb1
          have xa := turnI_in (a := a) (by omega)
          have xb := turnI_in (a := b) (by omega)
          rw [xa, xb]
          by_cases hab : a = b
          · subst hab
            have e4 : ¬ (a + 1) % 256 = a := by omega
            have e5 : decide (0 ≤ (a + 1) % 256) = true := decide_eq_true (by omega)
            have e6 : decide ((a + 1) % 256 ≤ 255) = true := decide_eq_true (by omega)
            generalize (a + 1) % 256 = x at *
            clear xa xb ha0 ha1 hb0 hb1
            go_wp2; go_ret; exact ⟨show Ending.returned (.bool (x != a)) = _ by rw [bne_iff_ne.2 e4], hB3⟩
          · have e3 : ¬ (a + 1) % 256 = (b + 1) % 256 := by omega
            have e4 : ¬ (a + 1) % 256 = a := by omega
            have e5 : decide (0 ≤ (a + 1) % 256) = true := decide_eq_true (by omega)
            have e6 : decide ((a + 1) % 256 ≤ 255) = true := decide_eq_true (by omega)
            generalize (a + 1) % 256 = x at *
            generalize (b + 1) % 256 = y at *
            clear xa xb ha0 ha1 hb0 hb1
            go_wp2
            all_goals
              go_ret
              refine ⟨?_, hB3⟩
              first
                | (show Ending.returned (.bool (x != a)) = _; rw [bne_iff_ne.2 e4])
                | rfl
                | (rename_i h; exact absurd (by rw [beq_eq_false_iff_ne.2 e3, beq_eq_false_iff_ne.2 hab]) h)
end Go.Proofs.YtdhligapadblgaaDoor

namespace Go.Proofs.YtdhligapadblgaaDoor.lawHeadTurns
open Go.ChangeShapes Go.WideShapes Go.ChangeAt Go.RowKit
set_option maxRecDepth 100000 in
theorem told (H : Type) (enc : TypeId × Value → H) (W : World) (base : Nat) (args : Array Value) (ds gs : List (DataW H)) (before : List MemPlace)
    (hval : ∀ (j : Nat) t v, Tryd.f5.params[j]? = some t → args[j]? = some v → Value.okWide Tryd.prog W .any base t v)
    (hW : DataW.Whole enc Tryd.prog Tryd.f5.params.toList Rows.headTurnsSpec.vars false W args.toList ds gs before) (hL : laidMetH Tryd.prog laidL W) :
    Calls Tryd.prog 5 args W fun e W' => ∃ v, e = .returned v ∧ Rows.headTurnsSpec.post enc Tryd.prog Tryd.f5 false true false false W args v W' := by
  have hW' := hW
  obtain ⟨p, q, hA0, hV, rfl, hfz, hnd⟩ := hW
  have hA : DataW.TrodAll enc Tryd.prog W 0 (fun _ => true) true Tryd.f5.params.toList args.toList ds p := hA0
  rw [Tryd.params5] at hA hval
  obtain ⟨v0, vs0, d0, ds0, p0, q0, hargs, rfl, rfl, h0, r0⟩ := trodAll_cons hA
  obtain ⟨v1, vs1, d1, ds1, p1, q1, rfl, rfl, rfl, h1, r1⟩ := trodAll_cons r0
  obtain ⟨rfl, rfl, rfl⟩ := trodAll_nil r1
  obtain rfl : args = #[v0, v1] := by cases args; simp_all
  obtain ⟨rfl, rfl⟩ := trodVars_none hV
  obtain ⟨x0, rfl, rfl, rfl, wx0⟩ := open_int Tryd.underlying3 (hval 0 3 v0 rfl rfl) h0
  obtain ⟨x1, rfl, rfl, rfl, wx1⟩ := open_int Tryd.underlying3 (hval 1 3 v1 rfl rfl) h1
  clear hA0
  simp only [List.append_nil] at hW'
  obtain ⟨E, hGl⟩ := glob_of_laid hL
  refine (turns_law hGl x0 x1).mono fun e W' ⟨he, hb⟩ => ?_
  subst he
  exact ⟨_, rfl, _, _, _, [], _, [], hW', trodAll_cons_mk (shut_bool Tryd.underlying4 _) trodAll_mk0, (trodAll_cons_mk (shut_int Tryd.underlying3 wx0) (trodAll_cons_mk (shut_int Tryd.underlying3 wx1) trodAll_mk0)), rfl, hb.frame _, fun h => by cases h⟩

set_option maxRecDepth 100000 in
theorem lifted (os : Os) (started : os.Started) (H : Type) (enc : TypeId × Value → H) :
    ReturnsInHanded {} Tryd.checked os 5 .any (fun w args => (Rows.headTurnsSpec.pre enc Tryd.prog Tryd.f5 [] false w args ∧ laidMetH Tryd.prog laidL w) ∧ sizedMet enc Tryd.prog Tryd.f5 (OpenSpec.ofChange Rows.headTurnsSpec) false w args)
      (Rows.headTurnsSpec.post enc Tryd.prog Tryd.f5 false true false false) := by
  refine returnsInHanded_of_change_and (C := Tryd.checked) (X := fun w _ => laidMetH Tryd.prog laidL w) (fun _ _ _ hh h => h.of_heap hh) own started (by kernel_rfl) Tryd.func5
    (ChangeSpec.witness_shaped (enc := enc) (C := Tryd.checked) (os := os) (X := fun w _ => laidMetH Tryd.prog laidL w) false (World.doorLaid Tryd.prog 189 os) #[.int .i64 0, .int .i64 0] 8 rfl (World.shaped_of_RefB (by kernel_rfl) (by kernel_rfl)) (by kernel_rfl) (by kernel_rfl) (by kernel_rfl) (door_met os _)) ?_
  intro W base args ds gs before hval hW _ _ hL _
  exact told H enc W base args ds gs before hval hW hL

theorem said : Rows.HeadTurnsSaid :=
  OpenClaim.holds_of_wide 5 Tryd.f5 rfl rfl rfl rfl rfl rfl rfl ⟨rfl, rfl, rfl, rfl, rfl⟩ rfl rfl rfl rfl rfl (by kernel_rfl) Tryd.func5 (by kernel_rfl)
    (of_decide_eq_true (by kernel_rfl)) (by unfold Func.isWrapper; first | (rw [if_pos (by decide +kernel)]; kernel_rfl) | (rw [if_neg (by decide +kernel)]; exact ⟨rfl, rfl⟩))
    (fun os started H enc _ => lifted os started H enc)

theorem plain (f : FuncId) (fn : Func) (hf : Tryd.pinned.checked.prog.funcNamed "selion/selionlaw06.HeadTurns" = some f) (hfn : Tryd.pinned.checked.prog.funcs[f]? = some fn) :
    true = Tryd.pinned.checked.prog.looks [] ∧ ∀ (j : Nat) t, fn.params[j]? = some t → Tryd.pinned.checked.prog.wantsStandIn t = false := by
  obtain rfl : f = 5 := Option.some.inj ((show Tryd.prog.funcNamed "selion/selionlaw06.HeadTurns" = some 5 by kernel_rfl).symm.trans hf) |>.symm
  obtain rfl : fn = Tryd.f5 := (Option.some.inj (Tryd.func5.symm.trans hfn)).symm
  refine ⟨by kernel_rfl, fun j t ht => ?_⟩
  have hm : t ∈ Tryd.f5.params := Array.mem_of_getElem? ht
  rw [Tryd.params5] at hm
  have hm' : t = 3 := by simpa using hm
  subst hm'
  exact (show Tryd.prog.wantsStandIn 3 = false by kernel_rfl)

/-- THE CARD. -/
theorem card : Rows.HeadTurnsCardSaid :=
  Claim7.holds_tied_plain_at .later [] _ _ _ _ said (fun _ h => by cases h) (by kernel_rfl) (fun _ h => by cases h) headTurns_row_tie rfl ⟨rfl, rfl⟩ (by kernel_rfl) rfl plain (by kernel_rfl)
end Go.Proofs.YtdhligapadblgaaDoor.lawHeadTurns

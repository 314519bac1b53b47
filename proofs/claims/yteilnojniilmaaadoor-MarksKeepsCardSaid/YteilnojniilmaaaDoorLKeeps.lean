/- MarksKeeps holds of every list, every extent and every line: the law's own text walked, and the card. -/
import Derived.Test.YteilnojniilmaaaDoorM10
import Derived.Test.YteilnojniilmaaaDoorA6s
import Derived.Test.YteilnojniilmaaaDoorOp
import Derived.Test.YteilnojniilmaaaDoorG7
import Derived.Test.YteilnojniilmaaaDoorCards
import Derived.Test.YteilnojniilmaaaDoorTie
namespace Go.Proofs.YteilnojniilmaaaDoor
open Go.RowKit
attribute [local go_sem ↓] Go.wp_at_zero Go.wp_at_succ

theorem Below.alloc' {w W : World} (h : Below w.heap.size w W) (o : Obj) : Below w.heap.size w (W.alloc o) := h.alloc h.size o

set_option maxHeartbeats 1000000 in
set_option maxRecDepth 20000 in
theorem keeps_law {E : Env7} {w : World} (hGl : Glob7 E w) {v : Value} {l : List Int} (hv : IntsV w v l) (a n x : Int) :
    Calls Tryd.prog 5 #[v, .int .i64 a, .int .i64 n, .int .i64 x] w fun r w' => r = .returned (.bool true) ∧ Below w.heap.size w w' := by
  have hb : Below w.heap.size w w := Below.refl _ _
  generalize hl' : l.take 34 = l'
  have HL := Lib.hid hl'
  clear hl'
  cases hr : rightT l' with
  | false =>
    have e1 : markE l' a n = 70 := by unfold markE; rw [hr]; rfl
    have e2 : markL l' a n = [] := by unfold markL; rw [hr]; rfl
    go_enter Tryd.func5, Tryd.ntmps5
    go_wp2_with fail
    refine (shown_any hGl).mono ?_
    rintro r w0 ⟨rfl, hb0⟩
    replace hGl := hGl.below hb0
    replace hv := hv.below hb0
    replace hb := hb.trans (hb0.mono hb.size)
    clear hb0
    go_wp2_with fail
    refine (cut_any hv).mono ?_
    rintro r w1 ⟨⟨vc, rfl, hc⟩, rfl⟩
    clear hv
    rw [HL.out] at hc
    have m1 := mark_any hGl hc a n
    rw [e1, e2] at m1
    go_wp2_with fail
    refine (m1).mono ?_
    rintro r w1 ⟨⟨v1, rfl, h1⟩, hb1⟩
    replace hGl := hGl.below hb1
    replace hc := hc.below hb1
    replace hb := hb.trans (hb1.mono hb.size)
    clear hb1
    have m1 := right_any7 hc
    rw [hr] at m1
    clear hr e1 e2 hGl hc
    obtain ⟨p, cap, rfl⟩ := h1.slice
    clear h1
    go_wp2_with fail
    refine m1.mono ?_
    rintro r w2 ⟨rfl, rfl⟩
    clear m1
    go_wp2
    go_ret
    exact ⟨rfl, hb⟩
  | true =>
    cases hx : extB a n with
    | false =>
      have e1 : markE l' a n = 11 := by unfold markE; rw [hr, hx]; rfl
      have e2 : markL l' a n = [] := by unfold markL; rw [hr, hx]; rfl
      go_enter Tryd.func5, Tryd.ntmps5
      go_wp2_with fail
      refine (shown_any hGl).mono ?_
      rintro r w0 ⟨rfl, hb0⟩
      replace hGl := hGl.below hb0
      replace hv := hv.below hb0
      replace hb := hb.trans (hb0.mono hb.size)
      clear hb0
      go_wp2_with fail
      refine (cut_any hv).mono ?_
      rintro r w1 ⟨⟨vc, rfl, hc⟩, rfl⟩
      clear hv
      rw [HL.out] at hc
      have m1 := mark_any hGl hc a n
      rw [e1, e2] at m1
      go_wp2_with fail
      refine (m1).mono ?_
      rintro r w1 ⟨⟨v1, rfl, h1⟩, hb1⟩
      replace hGl := hGl.below hb1
      replace hc := hc.below hb1
      replace hb := hb.trans (hb1.mono hb.size)
      clear hb1
      have m1 := right_any7 hc
      rw [hr] at m1
      clear hr e1 e2 hGl hc hx
      obtain ⟨p, cap, rfl⟩ := h1.slice
      clear h1
      go_wp2_with fail
      refine m1.mono ?_
      rintro r w2 ⟨rfl, rfl⟩
      clear m1
      go_wp2
      go_ret
      exact ⟨rfl, hb⟩
    | true =>
      have e1 : markE l' a n = 0 := by unfold markE; rw [hr, hx]; rfl
      have e2 : markL l' a n = markT l' a n := by unfold markL; rw [hr, hx]; rfl
      have hk := mark_keeps hr a n hx
      have hk2 := mark_keeps2 hr a n x
      have hT := right_markT hr a n
      obtain ⟨g1, g2, g3, g4, g5⟩ := (extB_iff a n).1 hx
      have S := fun (W : World) (h : Glob7 E W) => span_yes h.base a n (by simp [rightB]; omega) g1 (by omega) g3 (by omega)
      have HS := Lib.hid S
      clear S hx
      go_enter Tryd.func5, Tryd.ntmps5
      go_wp2_with fail
      refine (shown_any hGl).mono ?_
      rintro r w0 ⟨rfl, hb0⟩
      replace hGl := hGl.below hb0
      replace hv := hv.below hb0
      replace hb := hb.trans (hb0.mono hb.size)
      clear hb0
      go_wp2_with fail
      refine (cut_any hv).mono ?_
      rintro r w1 ⟨⟨vc, rfl, hc⟩, rfl⟩
      clear hv
      rw [HL.out] at hc
      have m1 := mark_any hGl hc a n
      rw [e1, e2] at m1
      go_wp2_with fail
      refine (m1).mono ?_
      rintro r w1 ⟨⟨v1, rfl, h1⟩, hb1⟩
      replace hGl := hGl.below hb1
      replace hc := hc.below hb1
      replace hb := hb.trans (hb1.mono hb.size)
      clear hb1
      clear e1 e2
      have m1 := HS.out _ hGl
      go_wp2_with fail
      refine (m1).mono ?_
      rintro r w2 ⟨rfl, hb2⟩
      replace hc := hc.below hb2
      replace h1 := h1.below hb2
      replace hb := hb.trans (hb2.mono hb.size)
      clear hb2
      have hf1 : 0 ≤ a / 128 := by omega
      have hf3 : a / 128 ≤ (a + n - 1) / 128 := by omega
      have hf4 : (a + n - 1) / 128 ≤ 31 := by omega
      obtain ⟨f, hf⟩ : ∃ f : Nat, (f : Int) = a / 128 := ⟨(a / 128).toNat, by omega⟩
      obtain ⟨g, hg⟩ : ∃ g : Nat, (g : Int) = (a + n - 1) / 128 := ⟨((a + n - 1) / 128).toNat, by omega⟩
      rw [← hf, ← hg]
      have hfg : f ≤ g := by omega
      have hk' : ∀ i : Int, (f : Int) ≤ i → i ≤ (g : Int) → i ∈ linesI (markT l' a n) := fun i q1 q2 => hk i (by omega) (by omega)
      have hg31 : g ≤ 31 := by omega
      have HK := Lib.hid hk'
      clear hk' hf1 hf3 hf4
      have HK2 := Lib.hid hk2
      have HT := Lib.hid hT
      clear hk hk2 hT m1 hGl HS hf hg g1 g2 g3 g4 g5
      generalize markT l' a n = T at *
      go_wp2
      go_loopw [15] (fun i W => ∃ k : Nat, f ≤ k ∧ k ≤ g + 1 ∧ i = .int .i64 k ∧ Below w2.heap.size w2 W) (fun i _ => g + 1 - (intOf i).toNat)
      case atStart => exact ⟨f, Nat.le_refl _, by omega, rfl, Below.refl _ _⟩
      case round =>
        obtain ⟨k, hk1, hk3, rfl, hB⟩ := hrel
        have h1' := h1.below hB
        by_cases hlt : k ≤ g
        · have hd : (k : Int) ∈ linesI T := HK.out k (by omega) (by omega)
          have m1 := kept_any7 h1' (k : Int)
          rw [decide_eq_true hd] at m1
          clear hd h1'
          go_wp2_with fail
          refine m1.mono ?_
          rintro r w3 ⟨rfl, hb3⟩
          have hB3 := hB.trans (hb3.mono hB.size)
          clear m1 hB hb3
          go_wp2
          go_round
          case rel => exact ⟨k + 1, by omega, by omega, by go_num, hB3⟩
          case measure => simp [intOf]; omega
        · obtain rfl : k = g + 1 := by omega
          have hc' := hc.below hB
          replace hb := hb.trans (hB.mono hb.size)
          have m1 := right_any7 h1'
          rw [HT.out] at m1
          have m2 := kept_any7 hc' x
          have m3 := fun (W : World) (h : IntsV W v1 T) => kept_any7 h x
          clear hB
          go_wp2_with fail
          refine m1.mono ?_
          rintro r w3 ⟨rfl, rfl⟩
          clear m1
          by_cases k1 : x ∈ linesI l'
          · have k2 := HK2.out k1
            rw [decide_eq_true k1] at m2
            rw [decide_eq_true k2] at m3
            clear k1 k2
            go_wp2_with fail
            refine (m2).mono ?_
            rintro r w4 ⟨rfl, hb4⟩
            replace h1' := h1'.below hb4
            replace hb := hb.trans (hb4.mono hb.size)
            clear hb4
            clear m2
            have m1 := m3 _ h1'
            go_wp2_with fail
            refine (m1).mono ?_
            rintro r w5 ⟨rfl, hb5⟩
            replace h1' := h1'.below hb5
            replace hb := hb.trans (hb5.mono hb.size)
            clear hb5
            clear m1 m3
            go_wp2
            go_ret
            exact ⟨rfl, hb⟩
          · rw [decide_eq_false k1] at m2
            clear k1 m3
            go_wp2_with fail
            refine (m2).mono ?_
            rintro r w4 ⟨rfl, hb4⟩
            replace h1' := h1'.below hb4
            replace hb := hb.trans (hb4.mono hb.size)
            clear hb4
            clear m2
            go_wp2
            go_ret
            exact ⟨rfl, hb⟩
end Go.Proofs.YteilnojniilmaaaDoor

namespace Go.Proofs.YteilnojniilmaaaDoor.lawMarksKeeps
open Go.ChangeShapes Go.WideShapes Go.ChangeAt Go.RowKit
set_option maxRecDepth 100000 in
theorem told (H : Type) (enc : TypeId × Value → H) (W : World) (base : Nat) (args : Array Value) (ds gs : List (DataW H)) (before : List MemPlace)
    (hval : ∀ (j : Nat) t v, Tryd.f5.params[j]? = some t → args[j]? = some v → Value.okWide Tryd.prog W .any base t v)
    (hW : DataW.Whole enc Tryd.prog Tryd.f5.params.toList Rows.marksKeepsSpec.vars false W args.toList ds gs before) (hL : laidMetH Tryd.prog laidL W) :
    Calls Tryd.prog 5 args W fun e W' => ∃ v, e = .returned v ∧ Rows.marksKeepsSpec.post enc Tryd.prog Tryd.f5 false true false false W args v W' := by
  have hW' := hW
  obtain ⟨p, q, hA0, hV, rfl, hfz, hnd⟩ := hW
  have hA : DataW.TrodAll enc Tryd.prog W 0 (fun _ => true) true Tryd.f5.params.toList args.toList ds p := hA0
  rw [Tryd.params5] at hA hval
  obtain ⟨v0, vs0, d0, ds0, p0, q0, hargs, rfl, rfl, h0, r0⟩ := trodAll_cons hA
  obtain ⟨v1, vs1, d1, ds1, p1, q1, rfl, rfl, rfl, h1, r1⟩ := trodAll_cons r0
  obtain ⟨v2, vs2, d2, ds2, p2, q2, rfl, rfl, rfl, h2, r2⟩ := trodAll_cons r1
  obtain ⟨v3, vs3, d3, ds3, p3, q3, rfl, rfl, rfl, h3, r3⟩ := trodAll_cons r2
  obtain ⟨rfl, rfl, rfl⟩ := trodAll_nil r3
  obtain rfl : args = #[v0, v1, v2, v3] := by cases args; simp_all
  obtain ⟨rfl, rfl⟩ := trodVars_none hV
  have k0 := h0
  have k1 := h1
  have k2 := h2
  have k3 := h3
  obtain ⟨l0, i0⟩ := ints_open (hval 0 22 v0 rfl rfl) h0
  obtain ⟨x1, rfl, rfl, rfl, wx1⟩ := open_int Tryd.underlying3 (hval 1 3 v1 rfl rfl) h1
  obtain ⟨x2, rfl, rfl, rfl, wx2⟩ := open_int Tryd.underlying3 (hval 2 3 v2 rfl rfl) h2
  obtain ⟨x3, rfl, rfl, rfl, wx3⟩ := open_int Tryd.underlying3 (hval 3 3 v3 rfl rfl) h3
  clear hA0
  simp only [List.append_nil] at hW'
  obtain ⟨E, hGl⟩ := glob_of_laid hL
  refine (keeps_law hGl i0 x1 x2 x3).mono fun e W' ⟨he, hb⟩ => ?_
  subst he
  have hlt := hW'.lt
  have harg0 := Below.trod laidOut (by kernel_rfl) (of_decide_eq_true (by kernel_rfl)) k0 hb (fun y hy => by first | (cases hy; done) | (simpa using hlt y (by simp [hy])))
  have harg1 := Below.trod laidOut (by kernel_rfl) (of_decide_eq_true (by kernel_rfl)) k1 hb (fun y hy => by first | (cases hy; done) | (simpa using hlt y (by simp [hy])))
  have harg2 := Below.trod laidOut (by kernel_rfl) (of_decide_eq_true (by kernel_rfl)) k2 hb (fun y hy => by first | (cases hy; done) | (simpa using hlt y (by simp [hy])))
  have harg3 := Below.trod laidOut (by kernel_rfl) (of_decide_eq_true (by kernel_rfl)) k3 hb (fun y hy => by first | (cases hy; done) | (simpa using hlt y (by simp [hy])))
  exact ⟨_, rfl, _, _, _, [], _, [], hW', trodAll_cons_mk (shut_bool Tryd.underlying4 _) trodAll_mk0, (trodAll_cons_mk harg0 (trodAll_cons_mk harg1 (trodAll_cons_mk harg2 (trodAll_cons_mk harg3 trodAll_mk0)))), rfl, hb.frame _, fun h => by cases h⟩

set_option maxRecDepth 100000 in
theorem lifted (os : Os) (started : os.Started) (H : Type) (enc : TypeId × Value → H) :
    ReturnsInHanded {} Tryd.checked os 5 .any (fun w args => (Rows.marksKeepsSpec.pre enc Tryd.prog Tryd.f5 [] false w args ∧ laidMetH Tryd.prog laidL w) ∧ sizedMet enc Tryd.prog Tryd.f5 (OpenSpec.ofChange Rows.marksKeepsSpec) false w args)
      (Rows.marksKeepsSpec.post enc Tryd.prog Tryd.f5 false true false false) := by
  refine returnsInHanded_of_change_and (C := Tryd.checked) (X := fun w _ => laidMetH Tryd.prog laidL w) (fun _ _ _ hh h => h.of_heap hh) own started (by kernel_rfl) Tryd.func5
    (ChangeSpec.witness_shaped (enc := enc) (C := Tryd.checked) (os := os) (X := fun w _ => laidMetH Tryd.prog laidL w) false (World.doorLaid Tryd.prog 112 os) #[.slice none 0 0, .int .i64 0, .int .i64 0, .int .i64 0] 8 rfl (World.shaped_of_RefB (by kernel_rfl) (by kernel_rfl)) (by kernel_rfl) (by kernel_rfl) (by kernel_rfl) (door_met os _)) ?_
  intro W base args ds gs before hval hW _ _ hL _
  exact told H enc W base args ds gs before hval hW hL

theorem said : Rows.MarksKeepsSaid :=
  OpenClaim.holds_of_wide 5 Tryd.f5 rfl rfl rfl rfl rfl rfl rfl ⟨rfl, rfl, rfl, rfl, rfl⟩ rfl rfl rfl rfl rfl (by kernel_rfl) Tryd.func5 (by kernel_rfl)
    (of_decide_eq_true (by kernel_rfl)) (by unfold Func.isWrapper; first | (rw [if_pos (by decide +kernel)]; kernel_rfl) | (rw [if_neg (by decide +kernel)]; exact ⟨rfl, rfl⟩))
    (fun os started H enc _ => lifted os started H enc)

theorem plain (f : FuncId) (fn : Func) (hf : Tryd.pinned.checked.prog.funcNamed "selion/selionlaw07.MarksKeeps" = some f) (hfn : Tryd.pinned.checked.prog.funcs[f]? = some fn) :
    true = Tryd.pinned.checked.prog.looks [] ∧ ∀ (j : Nat) t, fn.params[j]? = some t → Tryd.pinned.checked.prog.wantsStandIn t = false := by
  obtain rfl : f = 5 := Option.some.inj ((show Tryd.prog.funcNamed "selion/selionlaw07.MarksKeeps" = some 5 by kernel_rfl).symm.trans hf) |>.symm
  obtain rfl : fn = Tryd.f5 := (Option.some.inj (Tryd.func5.symm.trans hfn)).symm
  refine ⟨by kernel_rfl, fun j t ht => ?_⟩
  have hm : t ∈ Tryd.f5.params := Array.mem_of_getElem? ht
  rw [Tryd.params5] at hm
  have hm' : t = 22 ∨ t = 3 := by simpa using hm
  rcases hm' with rfl | rfl
  · exact (show Tryd.prog.wantsStandIn 22 = false by kernel_rfl)
  · exact (show Tryd.prog.wantsStandIn 3 = false by kernel_rfl)

/-- THE CARD. -/
theorem card : Rows.MarksKeepsCardSaid :=
  Claim7.holds_tied_plain_at .later [] _ _ _ _ said (fun _ h => by cases h) (by kernel_rfl) (fun _ h => by cases h) marksKeeps_row_tie rfl ⟨rfl, rfl⟩ (by kernel_rfl) rfl plain (by kernel_rfl)
end Go.Proofs.YteilnojniilmaaaDoor.lawMarksKeeps

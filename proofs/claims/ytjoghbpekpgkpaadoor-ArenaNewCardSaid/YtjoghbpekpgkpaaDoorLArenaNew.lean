/- ArenaNew holds of all numbers of blocks and places: the law's own text walked, and the card. -/
import Derived.Test.YtjoghbpekpgkpaaDoorN9
import Derived.Test.YtjoghbpekpgkpaaDoorNG
import Derived.Test.YtjoghbpekpgkpaaDoorCards
import Derived.Test.YtjoghbpekpgkpaaDoorTie
namespace Go.Proofs.YtjoghbpekpgkpaaDoor
open Go Go.RowKit Go.Shelf
attribute [local go_sem ↓] Go.wp_at_zero Go.wp_at_succ

theorem worth_none (a : Nat) : ∀ k, worthP (fun _ => 0) a k = 0
  | 0 => rfl
  | k + 1 => by simp [worthP, worth_none a k]
theorem load_none (n : Nat) (a : Int) : loadN n (fun _ => 0) a = 0 := by
  unfold loadN wordF
  cases okW n a
  · rw [cond_false]
  · rw [cond_true, worth_none]
theorem byte_none (n : Nat) (a : Int) : byteN n (fun _ => 0) a = 0 := by
  unfold byteN
  cases inB n a 1 <;> rfl
theorem cnt_none (n : Nat) : cntP (fun _ => 0) n = 0 := by
  induction n with
  | zero => rfl
  | succ k ih => rw [cntP, ih]; rfl
theorem chk_one (n : Nat) (a : Int) : chkN n a 1 = bif decide (0 ≤ a) && decide (a < n) then .ok else .adr := by
  unfold chkN
  by_cases h : 0 ≤ a ∧ a < n
  · rw [inB_iff.2 ⟨by omega, by omega, by omega, by omega⟩, decide_eq_true h.1, decide_eq_true h.2]
    rfl
  · have e1 : inB n a 1 = false := by
      cases e : inB n a 1 with
      | false => rfl
      | true => obtain ⟨h1, h2, h3, h4⟩ := inB_iff.1 e; omega
    have e2 : (decide (0 ≤ a) && decide (a < n)) = false := by rw [Bool.and_eq_false_iff, decide_eq_false_iff_not, decide_eq_false_iff_not]; omega
    rw [e1, e2]
theorem err_word (n : Nat) (h4 : n % 4 = 0) (a : Int) : errW n a = bif mul4 a && (decide (0 ≤ a) && decide (a < n)) then .ok else .adr := by
  unfold errW
  cases hm : mul4 a with
  | false => rfl
  | true =>
    have gm : a.tmod 4 = 0 := of_decide_eq_true hm
    rw [cond_true, Bool.true_and]
    unfold chkN
    by_cases h : 0 ≤ a ∧ a < n
    · have h5 : a % 4 = 0 := by rw [← Int.tmod_eq_emod_of_nonneg h.1]; exact gm
      rw [inB_iff.2 ⟨by omega, by omega, by omega, by omega⟩, decide_eq_true h.1, decide_eq_true h.2]
      rfl
    · have e1 : inB n a 4 = false := by
        cases e : inB n a 4 with
        | false => rfl
        | true => obtain ⟨h1, h2, h3, h4⟩ := inB_iff.1 e; omega
      have e2 : (decide (0 ≤ a) && decide (a < n)) = false := by rw [Bool.and_eq_false_iff, decide_eq_false_iff_not, decide_eq_false_iff_not]; omega
      rw [e1, e2]

set_option maxHeartbeats 4000000 in
set_option maxRecDepth 20000 in
theorem new_law {E : EnvN} {w : World} (hG : GlobN E w) (b a : Int) (hb : (Lit.int .i64 b).wf = true) :
    Calls Tryd.prog 3 #[.int .i64 b, .int .i64 a] w fun r w' => r = .returned (.bool true) ∧ Below w.heap.size w w' := by
  obtain ⟨hb1, hb2⟩ := wf_i64 hb
  have m0 := shown_N hG
  have HG := Lib.hid hG
  clear hG hb
  go_enter Tryd.func3, Tryd.ntmps3
  go_wp2_with fail
  refine m0.mono ?_
  rintro r w1 ⟨rfl, hB⟩
  clear m0
  by_cases h : b < 1 ∨ 32 < b
  · have m := new_no (HG.out.below hB) b hb1 hb2 h
    by_cases h1 : b < 1
    · have g1 : decide (b < 1) = true := decide_eq_true h1
      clear h h1 hb1 hb2
      go_wp2_with fail
      refine m.mono ?_
      rintro r w2 ⟨rfl, hb⟩
      have HB := Lib.hid (blN hB hb)
      clear m hB hb
      go_wp2
      go_ret
      exact ⟨rfl, HB.out⟩
    · have g1 : decide (b < 1) = false := dec_false h1
      have g2 : decide (32 < b) = true := decide_eq_true (by omega)
      clear h h1 hb1 hb2
      go_wp2_with fail
      refine m.mono ?_
      rintro r w2 ⟨rfl, hb⟩
      have HB := Lib.hid (blN hB hb)
      clear m hB hb
      go_wp2
      go_ret
      exact ⟨rfl, HB.out⟩
  · obtain ⟨k, rfl⟩ : ∃ k : Nat, b = k := ⟨b.toNat, by omega⟩
    have m := new_yes (HG.out.below hB) k (by omega) (by omega)
    have wk : IntKind.i64.wrap (4096 * (k : Int)) = ((4096 * k : Nat) : Int) := by rw [IntWalk.i64_in _ (by omega)]; omega
    have hn4 : 4096 * k % 4 = 0 := by omega
    generalize 4096 * k = n at *
    clear h hb1 hb2
    go_wp2_with fail
    refine m.mono ?_
    rintro r w2 ⟨⟨p, g, rfl, hp, hg, hA⟩, hb⟩
    have hS : St E w1 p g n (fun _ => 0) w2 := ⟨hb, (HG.out.below hB).below hb, hA, hp, hg⟩
    clear m hb hA
    have m := load_N hS.glob hS.arena a
    rw [load_none] at m
    go_wp2_with fail
    refine m.mono ?_
    rintro r w3 ⟨rfl, hb⟩
    replace hS := hS.read hb
    clear m hb
    have m := byte_N hS.glob hS.arena a
    rw [byte_none] at m
    go_wp2_with fail
    refine m.mono ?_
    rintro r w' ⟨rfl, rfl⟩
    clear m
    have M1 := size_N hS.arena
    have M2 := count_N hS.arena
    rw [cnt_none] at M2
    have HB := Lib.hid (blN hB hS.below)
    clear hS hB hp hg
    have e1 := chk_one n a
    have e2 := err_word n hn4 a
    clear hn4
    cases h0 : decide (0 ≤ a) with
    | false =>
      rw [h0] at e1 e2
      rw [e1, e2, Bool.false_and, Bool.and_false]
      clear e1 e2
      go_wp2_with fail
      refine M1.mono ?_
      rintro r w' ⟨rfl, rfl⟩
      go_wp2_with fail
      refine M2.mono ?_
      rintro r w4 ⟨rfl, hb⟩
      have HB2 := Lib.hid (blN HB.out hb)
      clear M1 M2 hb
      go_wp2
      go_ret
      exact ⟨rfl, HB2.out⟩
    | true =>
      cases h1 : decide (a < n) with
      | false =>
        rw [h0, h1] at e1 e2
        rw [e1, e2, Bool.and_false, Bool.and_false]
        clear e1 e2
        go_wp2_with fail
        refine M1.mono ?_
        rintro r w' ⟨rfl, rfl⟩
        go_wp2_with fail
        refine M2.mono ?_
        rintro r w4 ⟨rfl, hb⟩
        have HB2 := Lib.hid (blN HB.out hb)
        clear M1 M2 hb
        go_wp2
        go_ret
        exact ⟨rfl, HB2.out⟩
      | true =>
        rw [h0, h1] at e1 e2
        rw [e1, e2, Bool.and_true, Bool.and_true]
        clear e1 e2
        unfold mul4
        by_cases gm : a.tmod 4 = 0
        · rw [decide_eq_true gm]
          go_wp2_with fail
          refine M1.mono ?_
          rintro r w' ⟨rfl, rfl⟩
          go_wp2_with fail
          refine M2.mono ?_
          rintro r w4 ⟨rfl, hb⟩
          have HB2 := Lib.hid (blN HB.out hb)
          clear M1 M2 hb
          go_wp2
          go_ret
          exact ⟨rfl, HB2.out⟩
        · rw [decide_eq_false gm]
          go_wp2_with fail
          refine M1.mono ?_
          rintro r w' ⟨rfl, rfl⟩
          go_wp2_with fail
          refine M2.mono ?_
          rintro r w4 ⟨rfl, hb⟩
          have HB2 := Lib.hid (blN HB.out hb)
          clear M1 M2 hb
          go_wp2
          go_ret
          exact ⟨show Ending.returned (.bool (false == (a.tmod 4 == 0))) = _ by rw [beq_eq_false_iff_ne.2 gm]; rfl, HB2.out⟩
end Go.Proofs.YtjoghbpekpgkpaaDoor

namespace Go.Proofs.YtjoghbpekpgkpaaDoor.lawArenaNew
open Go.ChangeShapes Go.WideShapes Go.ChangeAt Go.RowKit
set_option maxRecDepth 100000 in
theorem told (H : Type) (enc : TypeId × Value → H) (W : World) (base : Nat) (args : Array Value) (ds gs : List (DataW H)) (before : List MemPlace)
    (hval : ∀ (j : Nat) t v, Tryd.f3.params[j]? = some t → args[j]? = some v → Value.okWide Tryd.prog W .any base t v)
    (hW : DataW.Whole enc Tryd.prog Tryd.f3.params.toList Rows.arenaNewSpec.vars false W args.toList ds gs before) (hL : laidMetH Tryd.prog laidL W) :
    Calls Tryd.prog 3 args W fun e W' => ∃ v, e = .returned v ∧ Rows.arenaNewSpec.post enc Tryd.prog Tryd.f3 false true false false W args v W' := by
  have hW' := hW
  obtain ⟨p, q, hA0, hV, rfl, hfz, hnd⟩ := hW
  have hA : DataW.TrodAll enc Tryd.prog W 0 (fun _ => true) true Tryd.f3.params.toList args.toList ds p := hA0
  rw [Tryd.params3] at hA hval
  obtain ⟨v0, vs0, d0, ds0, p0, q0, hargs, rfl, rfl, h0, r0⟩ := trodAll_cons hA
  obtain ⟨v1, vs1, d1, ds1, p1, q1, rfl, rfl, rfl, h1, r1⟩ := trodAll_cons r0
  obtain ⟨rfl, rfl, rfl⟩ := trodAll_nil r1
  obtain rfl : args = #[v0, v1] := by cases args; simp_all
  obtain ⟨rfl, rfl⟩ := trodVars_none hV
  obtain ⟨x0, rfl, rfl, rfl, wx0⟩ := open_int Tryd.underlying3 (hval 0 3 v0 rfl rfl) h0
  obtain ⟨x1, rfl, rfl, rfl, wx1⟩ := open_int Tryd.underlying3 (hval 1 3 v1 rfl rfl) h1
  clear hA0
  simp only [List.append_nil] at hW'
  obtain ⟨E, hGl⟩ := glob_of_laid hL
  refine (new_law hGl x0 x1 wx0).mono fun e W' ⟨he, hb⟩ => ?_
  subst he
  exact ⟨_, rfl, _, _, _, [], _, [], hW', trodAll_cons_mk (shut_bool Tryd.underlying4 _) trodAll_mk0, (trodAll_cons_mk (shut_int Tryd.underlying3 wx0) (trodAll_cons_mk (shut_int Tryd.underlying3 wx1) trodAll_mk0)), rfl, hb.frame _, fun h => by cases h⟩

set_option maxRecDepth 100000 in
theorem lifted (os : Os) (started : os.Started) (H : Type) (enc : TypeId × Value → H) :
    ReturnsInHanded {} Tryd.checked os 3 .any (fun w args => (Rows.arenaNewSpec.pre enc Tryd.prog Tryd.f3 [] false w args ∧ laidMetH Tryd.prog laidL w) ∧ sizedMet enc Tryd.prog Tryd.f3 (OpenSpec.ofChange Rows.arenaNewSpec) false w args)
      (Rows.arenaNewSpec.post enc Tryd.prog Tryd.f3 false true false false) := by
  refine returnsInHanded_of_change_and (C := Tryd.checked) (X := fun w _ => laidMetH Tryd.prog laidL w) (fun _ _ _ hh h => h.of_heap hh) own started (by kernel_rfl) Tryd.func3
    (ChangeSpec.witness_shaped (enc := enc) (C := Tryd.checked) (os := os) (X := fun w _ => laidMetH Tryd.prog laidL w) false (World.doorLaid Tryd.prog 123 os) #[.int .i64 0, .int .i64 0] 8 rfl (World.shaped_of_RefB (by kernel_rfl) (by kernel_rfl)) (by kernel_rfl) (by kernel_rfl) (by kernel_rfl) (door_met os _)) ?_
  intro W base args ds gs before hval hW _ _ hL _
  exact told H enc W base args ds gs before hval hW hL

theorem said : Rows.ArenaNewSaid :=
  OpenClaim.holds_of_wide 3 Tryd.f3 rfl rfl rfl rfl rfl rfl rfl ⟨rfl, rfl, rfl, rfl, rfl⟩ rfl rfl rfl rfl rfl (by kernel_rfl) Tryd.func3 (by kernel_rfl)
    (of_decide_eq_true (by kernel_rfl)) (by unfold Func.isWrapper; first | (rw [if_pos (by decide +kernel)]; kernel_rfl) | (rw [if_neg (by decide +kernel)]; exact ⟨rfl, rfl⟩))
    (fun os started H enc _ => lifted os started H enc)

theorem plain (f : FuncId) (fn : Func) (hf : Tryd.pinned.checked.prog.funcNamed "selion/selionlaw03.ArenaNew" = some f) (hfn : Tryd.pinned.checked.prog.funcs[f]? = some fn) :
    true = Tryd.pinned.checked.prog.looks [] ∧ ∀ (j : Nat) t, fn.params[j]? = some t → Tryd.pinned.checked.prog.wantsStandIn t = false := by
  obtain rfl : f = 3 := Option.some.inj ((show Tryd.prog.funcNamed "selion/selionlaw03.ArenaNew" = some 3 by kernel_rfl).symm.trans hf) |>.symm
  obtain rfl : fn = Tryd.f3 := (Option.some.inj (Tryd.func3.symm.trans hfn)).symm
  refine ⟨by kernel_rfl, fun j t ht => ?_⟩
  have hm : t ∈ Tryd.f3.params := Array.mem_of_getElem? ht
  rw [Tryd.params3] at hm
  have hm' : t = 3 := by simpa using hm
  subst hm'
  exact (show Tryd.prog.wantsStandIn 3 = false by kernel_rfl)

/-- THE CARD. -/
theorem card : Rows.ArenaNewCardSaid :=
  Claim7.holds_tied_plain_at .later [] _ _ _ _ said (fun _ h => by cases h) (by kernel_rfl) (fun _ h => by cases h) arenaNew_row_tie rfl ⟨rfl, rfl⟩ (by kernel_rfl) rfl plain (by kernel_rfl)
end Go.Proofs.YtjoghbpekpgkpaaDoor.lawArenaNew

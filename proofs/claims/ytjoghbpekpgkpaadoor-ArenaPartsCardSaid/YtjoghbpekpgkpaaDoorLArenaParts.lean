/- ArenaParts holds of all numbers of blocks, calls, places, numbers: the law's own text walked, and the card. -/
import Derived.Test.YtjoghbpekpgkpaaDoorN13
import Derived.Test.YtjoghbpekpgkpaaDoorCards
import Derived.Test.YtjoghbpekpgkpaaDoorTie
namespace Go.Proofs.YtjoghbpekpgkpaaDoor
open Go Go.RowKit Go.Shelf
attribute [local go_sem ↓] Go.wp_at_zero Go.wp_at_succ

theorem okN_iff {b : Int} (h : okN b = true) : ∃ k : Nat, b = k ∧ 1 ≤ k ∧ k ≤ 32 := by
  unfold okN at h
  rw [Bool.and_eq_true, decide_eq_true_iff, decide_eq_true_iff] at h
  exact ⟨b.toNat, by omega, by omega, by omega⟩
theorem readS_size (f : Nat → Nat) (a k : Nat) : (readS f a k).size = k := by
  show ((List.range k).map fun i => UInt8.ofNat (f (a + i))).toArray.size = k
  simp
theorem readS_app (f : Nat → Nat) (a k m : Nat) : readS f a k ++ readS f (a + k) m = readS f a (k + m) := by
  apply ByteArray.ext
  apply Array.ext'
  unfold readS
  simp [List.range_add, Nat.add_assoc]
theorem chkN_code (n : Nat) (a k : Int) : (chkN n a k).code = bif inB n a k then 0 else 10 := by
  unfold chkN
  cases inB n a k <;> rfl

set_option maxHeartbeats 4000000 in
set_option maxRecDepth 20000 in
theorem parts_law {E : EnvN} {w : World} (hG : GlobN E w) (b : Int) {v : Value} {l : List XOp} (hv : OpsV w v l) (a n m : Int) (hb : (Lit.int .i64 b).wf = true) :
    Calls Tryd.prog 9 #[.int .i64 b, v, .int .i64 a, .int .i64 n, .int .i64 m] w fun r w' => r = .returned (.bool true) ∧ Below w.heap.size w w' := by
  obtain ⟨hb1, hb2⟩ := wf_i64 hb
  have m0 := shown_N hG
  have HG := Lib.hid hG
  clear hG hb
  go_enter Tryd.func9, Tryd.ntmps9
  go_wp2_with fail
  refine m0.mono ?_
  rintro r w1 ⟨rfl, hB⟩
  clear m0
  cases h : okN b with
  | false =>
    have m1 := made_no (HG.out.below hB) hb1 hb2 h v
    clear h hb1 hb2
    go_wp2_with fail
    refine m1.mono ?_
    rintro r w2 ⟨rfl, hb⟩
    have HB := Lib.hid (blN hB hb)
    clear m1 hB hb
    go_wp2
    go_ret
    exact ⟨rfl, HB.out⟩
  | true =>
    obtain ⟨k, rfl, h1, h2⟩ := okN_iff h
    have m1 := made_yes (HG.out.below hB) h1 h2 (hv.below hB)
    have hN : 4096 * k ≤ 1000000 := by omega
    generalize playF (4096 * k) (fun _ => 0) (cutO l) = f at *
    generalize 4096 * k = N at *
    clear h hb1 hb2 h1 h2 hv
    go_wp2_with fail
    refine m1.mono ?_
    rintro r w2 ⟨⟨p, g, rfl, hp, hg, hA⟩, hb⟩
    have HB := Lib.hid (blN hB hb)
    have hG2 := Lib.hid (HG.out.below (blN hB hb))
    have HA := Lib.hid hA
    clear m1 hp hg hB hb hA
    by_cases c1 : n < 0
    · have g1 : decide (n < 0) = true := decide_eq_true c1
      clear c1
      go_wp2; go_ret; exact ⟨rfl, HB.out⟩
    have g1 : decide (n < 0) = false := dec_false c1
    by_cases c2 : m < 0
    · have g2 : decide (m < 0) = true := decide_eq_true c2
      clear c1 c2
      go_wp2; go_ret; exact ⟨rfl, HB.out⟩
    have g2 : decide (m < 0) = false := dec_false c2
    by_cases c3 : 200000 < n
    · have g3 : decide (200000 < n) = true := decide_eq_true c3
      clear c1 c2 c3
      go_wp2; go_ret; exact ⟨rfl, HB.out⟩
    have g3 : decide (200000 < n) = false := dec_false c3
    by_cases c4 : 200000 < m
    · have g4 : decide (200000 < m) = true := decide_eq_true c4
      clear c1 c2 c3 c4
      go_wp2; go_ret; exact ⟨rfl, HB.out⟩
    have g4 : decide (200000 < m) = false := dec_false c4
    by_cases c5 : a < 0
    · have g5 : decide (a < 0) = true := decide_eq_true c5
      clear c1 c2 c3 c4 c5
      go_wp2; go_ret; exact ⟨rfl, HB.out⟩
    have g5 : decide (a < 0) = false := dec_false c5
    by_cases c6 : 200000 < a
    · have g6 : decide (200000 < a) = true := decide_eq_true c6
      clear c1 c2 c3 c4 c5 c6
      go_wp2; go_ret; exact ⟨rfl, HB.out⟩
    have g6 : decide (200000 < a) = false := dec_false c6
    have w1' : IntKind.i64.wrap (n + m) = n + m := IntWalk.i64_in _ (by omega)
    have w2' : IntKind.i64.wrap (a + n) = a + n := IntWalk.i64_in _ (by omega)
    have R1 := read_N hG2.out HA.out a (n + m)
    have R2 := read_N hG2.out HA.out a n
    have R3 := read_N hG2.out HA.out (a + n) m
    rw [chkN_code] at R1 R2 R3
    cases hin : inB N a (n + m) with
    | true =>
      obtain ⟨q1, q2, q3, q4⟩ := inB_iff.1 hin
      obtain ⟨A, rfl⟩ : ∃ A : Nat, a = A := ⟨a.toNat, by omega⟩
      obtain ⟨K, rfl⟩ : ∃ K : Nat, n = K := ⟨n.toNat, by omega⟩
      obtain ⟨M, rfl⟩ : ∃ M : Nat, m = M := ⟨m.toNat, by omega⟩
      have i2 : inB N (A : Int) (K : Int) = true := inB_iff.2 ⟨by omega, by omega, by omega, by omega⟩
      have i3 : inB N ((A : Int) + (K : Int)) (M : Int) = true := inB_iff.2 ⟨by omega, by omega, by omega, by omega⟩
      unfold readN at R1 R2 R3
      rw [hin, cond_true, cond_true, Int.toNat_natCast, show ((K : Int) + (M : Int)).toNat = K + M by omega] at R1
      rw [i2, cond_true, cond_true, Int.toNat_natCast, Int.toNat_natCast] at R2
      rw [i3, cond_true, cond_true, Int.toNat_natCast, show ((A : Int) + (K : Int)).toNat = A + K by omega] at R3
      have happ := readS_app f A K M
      have hsz : ((readS f A (K + M)).size : Int) = (K : Int) + (M : Int) := by rw [readS_size]; omega
      have hts : ¬ 9223372036854775807 < (readS f A K).size + (readS f (A + K) M).size := by rw [readS_size, readS_size]; omega
      generalize readS f A (K + M) = s at *
      generalize readS f A K = t at *
      generalize readS f (A + K) M = u at *
      clear hin i2 i3 q1 q2 q3 q4 c1 c2 c3 c4 c5 c6 hN HA hG2
      go_wp2_with fail
      refine R1.mono ?_
      rintro r w' ⟨rfl, rfl⟩
      go_wp2_with fail
      refine R2.mono ?_
      rintro r w' ⟨rfl, rfl⟩
      go_wp2_with fail
      refine R3.mono ?_
      rintro r w' ⟨rfl, rfl⟩
      clear R1 R2 R3
      go_wp2
      go_ret
      exact ⟨rfl, HB.out⟩
    | false =>
      have hne : inB N a n = false ∨ inB N (a + n) m = false := by
        cases j1 : inB N a n with
        | false => exact .inl rfl
        | true =>
          cases j2 : inB N (a + n) m with
          | false => exact .inr rfl
          | true =>
            obtain ⟨q1, q2, q3, q4⟩ := inB_iff.1 j1
            obtain ⟨p1, p2, p3, p4⟩ := inB_iff.1 j2
            rw [inB_iff.2 ⟨by omega, by omega, by omega, by omega⟩] at hin
            cases hin
      have r1 : readN N f a (n + m) = ⟨#[]⟩ := by unfold readN; rw [hin]; rfl
      rw [hin, cond_false, r1] at R1
      generalize readN N f a n = t at *
      generalize readN N f (a + n) m = u at *
      clear hin r1 c1 c2 c3 c4 c5 c6 hN HA hG2
      rcases hne with e | e
      · rw [e, cond_false] at R2
        generalize (bif inB N (a + n) m then (0 : Int) else 10) = y at *
        clear e
        go_wp2_with fail
        refine R1.mono ?_
        rintro r w' ⟨rfl, rfl⟩
        go_wp2_with fail
        refine R2.mono ?_
        rintro r w' ⟨rfl, rfl⟩
        go_wp2_with fail
        refine R3.mono ?_
        rintro r w' ⟨rfl, rfl⟩
        clear R1 R2 R3
        go_wp2
        go_ret
        exact ⟨rfl, HB.out⟩
      · rw [e, cond_false] at R3
        clear e
        cases e2 : inB N a n with
        | true =>
          rw [e2, cond_true] at R2
          clear e2
          go_wp2_with fail
          refine R1.mono ?_
          rintro r w' ⟨rfl, rfl⟩
          go_wp2_with fail
          refine R2.mono ?_
          rintro r w' ⟨rfl, rfl⟩
          go_wp2_with fail
          refine R3.mono ?_
          rintro r w' ⟨rfl, rfl⟩
          clear R1 R2 R3
          go_wp2
          go_ret
          exact ⟨rfl, HB.out⟩
        | false =>
          rw [e2, cond_false] at R2
          clear e2
          go_wp2_with fail
          refine R1.mono ?_
          rintro r w' ⟨rfl, rfl⟩
          go_wp2_with fail
          refine R2.mono ?_
          rintro r w' ⟨rfl, rfl⟩
          go_wp2_with fail
          refine R3.mono ?_
          rintro r w' ⟨rfl, rfl⟩
          clear R1 R2 R3
          go_wp2
          go_ret
          exact ⟨rfl, HB.out⟩
end Go.Proofs.YtjoghbpekpgkpaaDoor

namespace Go.Proofs.YtjoghbpekpgkpaaDoor.lawArenaParts
open Go.ChangeShapes Go.WideShapes Go.ChangeAt Go.RowKit
set_option maxRecDepth 100000 in
theorem told (H : Type) (enc : TypeId × Value → H) (W : World) (base : Nat) (args : Array Value) (ds gs : List (DataW H)) (before : List MemPlace)
    (hval : ∀ (j : Nat) t v, Tryd.f9.params[j]? = some t → args[j]? = some v → Value.okWide Tryd.prog W .any base t v)
    (hW : DataW.Whole enc Tryd.prog Tryd.f9.params.toList Rows.arenaPartsSpec.vars false W args.toList ds gs before) (hL : laidMetH Tryd.prog laidL W) :
    Calls Tryd.prog 9 args W fun e W' => ∃ v, e = .returned v ∧ Rows.arenaPartsSpec.post enc Tryd.prog Tryd.f9 false true false false W args v W' := by
  have hW' := hW
  obtain ⟨p, q, hA0, hV, rfl, hfz, hnd⟩ := hW
  have hA : DataW.TrodAll enc Tryd.prog W 0 (fun _ => true) true Tryd.f9.params.toList args.toList ds p := hA0
  rw [Tryd.params9] at hA hval
  obtain ⟨v0, vs0, d0, ds0, p0, q0, hargs, rfl, rfl, h0, r0⟩ := trodAll_cons hA
  obtain ⟨v1, vs1, d1, ds1, p1, q1, rfl, rfl, rfl, h1, r1⟩ := trodAll_cons r0
  obtain ⟨v2, vs2, d2, ds2, p2, q2, rfl, rfl, rfl, h2, r2⟩ := trodAll_cons r1
  obtain ⟨v3, vs3, d3, ds3, p3, q3, rfl, rfl, rfl, h3, r3⟩ := trodAll_cons r2
  obtain ⟨v4, vs4, d4, ds4, p4, q4, rfl, rfl, rfl, h4, r4⟩ := trodAll_cons r3
  obtain ⟨rfl, rfl, rfl⟩ := trodAll_nil r4
  obtain rfl : args = #[v0, v1, v2, v3, v4] := by cases args; simp_all
  obtain ⟨rfl, rfl⟩ := trodVars_none hV
  have k0 := h0
  have k1 := h1
  have k2 := h2
  have k3 := h3
  have k4 := h4
  obtain ⟨x0, rfl, rfl, rfl, wx0⟩ := open_int Tryd.underlying3 (hval 0 3 v0 rfl rfl) h0
  obtain ⟨l1, i1⟩ := ops_open (hval 1 34 v1 rfl rfl) h1
  obtain ⟨x2, rfl, rfl, rfl, wx2⟩ := open_int Tryd.underlying3 (hval 2 3 v2 rfl rfl) h2
  obtain ⟨x3, rfl, rfl, rfl, wx3⟩ := open_int Tryd.underlying3 (hval 3 3 v3 rfl rfl) h3
  obtain ⟨x4, rfl, rfl, rfl, wx4⟩ := open_int Tryd.underlying3 (hval 4 3 v4 rfl rfl) h4
  clear hA0
  simp only [List.append_nil] at hW'
  obtain ⟨E, hGl⟩ := glob_of_laid hL
  refine (parts_law hGl x0 i1 x2 x3 x4 wx0).mono fun e W' ⟨he, hb⟩ => ?_
  subst he
  have hlt := hW'.lt
  have harg0 := Below.trod laidOut (by kernel_rfl) (of_decide_eq_true (by kernel_rfl)) k0 hb (fun y hy => by first | (cases hy; done) | (simpa using hlt y (by simp [hy])))
  have harg1 := Below.trod laidOut (by kernel_rfl) (of_decide_eq_true (by kernel_rfl)) k1 hb (fun y hy => by first | (cases hy; done) | (simpa using hlt y (by simp [hy])))
  have harg2 := Below.trod laidOut (by kernel_rfl) (of_decide_eq_true (by kernel_rfl)) k2 hb (fun y hy => by first | (cases hy; done) | (simpa using hlt y (by simp [hy])))
  have harg3 := Below.trod laidOut (by kernel_rfl) (of_decide_eq_true (by kernel_rfl)) k3 hb (fun y hy => by first | (cases hy; done) | (simpa using hlt y (by simp [hy])))
  have harg4 := Below.trod laidOut (by kernel_rfl) (of_decide_eq_true (by kernel_rfl)) k4 hb (fun y hy => by first | (cases hy; done) | (simpa using hlt y (by simp [hy])))
  exact ⟨_, rfl, _, _, _, [], _, [], hW', trodAll_cons_mk (shut_bool Tryd.underlying4 _) trodAll_mk0, (trodAll_cons_mk harg0 (trodAll_cons_mk harg1 (trodAll_cons_mk harg2 (trodAll_cons_mk harg3 (trodAll_cons_mk harg4 trodAll_mk0))))), rfl, hb.frame _, fun h => by cases h⟩

set_option maxRecDepth 100000 in
theorem lifted (os : Os) (started : os.Started) (H : Type) (enc : TypeId × Value → H) :
    ReturnsInHanded {} Tryd.checked os 9 .any (fun w args => (Rows.arenaPartsSpec.pre enc Tryd.prog Tryd.f9 [] false w args ∧ laidMetH Tryd.prog laidL w) ∧ sizedMet enc Tryd.prog Tryd.f9 (OpenSpec.ofChange Rows.arenaPartsSpec) false w args)
      (Rows.arenaPartsSpec.post enc Tryd.prog Tryd.f9 false true false false) := by
  refine returnsInHanded_of_change_and (C := Tryd.checked) (X := fun w _ => laidMetH Tryd.prog laidL w) (fun _ _ _ hh h => h.of_heap hh) own started (by kernel_rfl) Tryd.func9
    (ChangeSpec.witness_shaped (enc := enc) (C := Tryd.checked) (os := os) (X := fun w _ => laidMetH Tryd.prog laidL w) false (World.doorLaid Tryd.prog 123 os) #[.int .i64 0, .slice none 0 0, .int .i64 0, .int .i64 0, .int .i64 0] 8 rfl (World.shaped_of_RefB (by kernel_rfl) (by kernel_rfl)) (by kernel_rfl) (by kernel_rfl) (by kernel_rfl) (door_met os _)) ?_
  intro W base args ds gs before hval hW _ _ hL _
  exact told H enc W base args ds gs before hval hW hL

theorem said : Rows.ArenaPartsSaid :=
  OpenClaim.holds_of_wide 9 Tryd.f9 rfl rfl rfl rfl rfl rfl rfl ⟨rfl, rfl, rfl, rfl, rfl⟩ rfl rfl rfl rfl rfl (by kernel_rfl) Tryd.func9 (by kernel_rfl)
    (of_decide_eq_true (by kernel_rfl)) (by unfold Func.isWrapper; first | (rw [if_pos (by decide +kernel)]; kernel_rfl) | (rw [if_neg (by decide +kernel)]; exact ⟨rfl, rfl⟩))
    (fun os started H enc _ => lifted os started H enc)

theorem plain (f : FuncId) (fn : Func) (hf : Tryd.pinned.checked.prog.funcNamed "selion/selionlaw03.ArenaParts" = some f) (hfn : Tryd.pinned.checked.prog.funcs[f]? = some fn) :
    true = Tryd.pinned.checked.prog.looks [] ∧ ∀ (j : Nat) t, fn.params[j]? = some t → Tryd.pinned.checked.prog.wantsStandIn t = false := by
  obtain rfl : f = 9 := Option.some.inj ((show Tryd.prog.funcNamed "selion/selionlaw03.ArenaParts" = some 9 by kernel_rfl).symm.trans hf) |>.symm
  obtain rfl : fn = Tryd.f9 := (Option.some.inj (Tryd.func9.symm.trans hfn)).symm
  refine ⟨by kernel_rfl, fun j t ht => ?_⟩
  have hm : t ∈ Tryd.f9.params := Array.mem_of_getElem? ht
  rw [Tryd.params9] at hm
  have hm' : t = 3 ∨ t = 34 ∨ t = 3 := by simpa using hm
  rcases hm' with rfl | rfl | rfl
  · exact (show Tryd.prog.wantsStandIn 3 = false by kernel_rfl)
  · exact (show Tryd.prog.wantsStandIn 34 = false by kernel_rfl)
  · exact (show Tryd.prog.wantsStandIn 3 = false by kernel_rfl)

/-- THE CARD. -/
theorem card : Rows.ArenaPartsCardSaid :=
  Claim7.holds_tied_plain_at .later [] _ _ _ _ said (fun _ h => by cases h) (by kernel_rfl) (fun _ h => by cases h) arenaParts_row_tie rfl ⟨rfl, rfl⟩ (by kernel_rfl) rfl plain (by kernel_rfl)
end Go.Proofs.YtjoghbpekpgkpaaDoor.lawArenaParts

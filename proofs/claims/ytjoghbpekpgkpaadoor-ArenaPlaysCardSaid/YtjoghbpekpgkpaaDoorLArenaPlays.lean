/- ArenaPlays holds of all numbers of blocks, calls: the law's own text walked, and the card. -/
import Derived.Test.YtjoghbpekpgkpaaDoorN14
import Derived.Test.YtjoghbpekpgkpaaDoorN10b
import Derived.Test.YtjoghbpekpgkpaaDoorNR4
import Derived.Test.YtjoghbpekpgkpaaDoorCards
import Derived.Test.YtjoghbpekpgkpaaDoorTie
namespace Go.Proofs.YtjoghbpekpgkpaaDoor
open Go Go.RowKit Go.Shelf
attribute [local go_sem ↓] Go.wp_at_zero Go.wp_at_succ

theorem zero_nil {E : EnvN} {w : World} (hG : GlobN E w) (a k : Int) : Calls Tryd.prog 18 #[.pointer none, .int .i64 a, .int .i64 k] w fun r w' => r = .returned (.int .i64 1) ∧ w = w' := by
  have C := check_nil hG a k (.slice none 0 0)
  have T := told_N hG .nil
  unfold ErN.val at C T
  clear hG
  go_enter Tryd.func18, Tryd.ntmps18
  go_wp2_with fail
  refine C.mono ?_
  rintro r w' ⟨rfl, rfl⟩
  go_wp2_with fail
  refine T.mono ?_
  rintro r w' ⟨rfl, rfl⟩
  go_wp2
  go_ret
  exact ⟨rfl, rfl⟩

set_option maxHeartbeats 8000000 in
set_option maxRecDepth 20000 in
theorem plays_law {E : EnvN} {w : World} (hG : GlobN E w) (b : Int) {v : Value} {l : List XOp} (hv : OpsV w v l ∧ ∀ i, i < l.length → (l.getD i op0).v < 4294967296) (hb : (Lit.int .i64 b).wf = true) :
    Calls Tryd.prog 4 #[.int .i64 b, v] w fun r w' => r = .returned (.bool true) ∧ Below w.heap.size w w' := by
  obtain ⟨hb1, hb2⟩ := wf_i64 hb
  have m0 := shown_N hG
  have HG := Lib.hid hG
  have HCV := Lib.hid (cutO_v hv.2)
  have HV := Lib.hid hv.1
  clear hG hb hv
  go_enter Tryd.func4, Tryd.ntmps4
  go_wp2_with fail
  refine m0.mono ?_
  rintro r w1 ⟨rfl, hB⟩
  have m1 := cut_N (HV.out.below hB)
  have HB := Lib.hid hB
  clear m0 hB HV
  go_wp2_with fail
  refine m1.mono ?_
  rintro r w2 ⟨⟨v', rfl, hO⟩, hb⟩
  have hB := blN HB.out hb
  have HB2 := Lib.hid hB
  have HO := Lib.hid hO
  clear m1 hb HB hO
  by_cases h : b < 1 ∨ 32 < b
  · have m1 := new_no (HG.out.below hB) b hb1 hb2 h
    have m2 := fun w => newR_no w b h
    clear h hb1 hb2 hB HO HCV
    go_wp2_with fail
    refine m1.mono ?_
    rintro r w3 ⟨rfl, hb⟩
    have HB3 := Lib.hid (blN HB2.out hb)
    have m3 := m2 w3
    have Z := zero_nil (HG.out.below HB3.out) 0 0
    have S0 := size_nil w3
    clear m1 m2 hb HB2
    go_wp2_with fail
    refine m3.mono ?_
    rintro r w' ⟨rfl, rfl⟩
    go_wp2_with fail
    refine S0.mono ?_
    rintro r w' ⟨rfl, rfl⟩
    go_wp2_with fail
    refine Z.mono ?_
    rintro r w' ⟨rfl, rfl⟩
    clear m3 S0 Z
    go_wp2
    go_ret
    exact ⟨rfl, HB3.out⟩
  obtain ⟨kb, rfl⟩ : ∃ kb : Nat, b = kb := ⟨b.toNat, by omega⟩
  have m1 := new_yes (HG.out.below hB) kb (by omega) (by omega)
  have m2 := fun w => newR_yes w kb (by omega) (by omega)
  have hN : 4096 * kb ≤ 1000000 := by omega
  generalize 4096 * kb = N at *
  clear h hb1 hb2 hB
  go_wp2_with fail
  refine m1.mono ?_
  rintro r w3 ⟨⟨p, g, rfl, hp, hg, hA⟩, hb⟩
  have hB3 := blN HB2.out hb
  have hS3 : St E w p g N (fun _ => 0) w3 := ⟨hB3, HG.out.below hB3, hA, Nat.le_trans HB2.out.size hp, Nat.le_trans HB2.out.size hg⟩
  have HO3 := Lib.hid (HO.out.below hb)
  have HS3 := Lib.hid hS3
  have hl3 : p < w3.heap.size ∧ g < w3.heap.size := ⟨block_lt hA.box, hA.arr.lt⟩
  have m3 := m2 w3
  clear m1 m2 hp hg hA hb hB3 hS3 HO HB2
  go_wp2_with fail
  refine m3.mono ?_
  rintro r w4 ⟨⟨p2, g2, rfl, hp, hg, hR⟩, hb⟩
  have hne : (p2 ≠ g ∧ g2 ≠ g) ∧ (p ≠ g2 ∧ g ≠ g2) := by omega
  have hwg2 : w.heap.size ≤ g2 := Nat.le_trans HS3.out.below.size hg
  have HS4 := Lib.hid (HS3.out.read hb)
  have HR4 := Lib.hid hR
  have hO := HO3.out.below hb
  clear m3 hp hg hR hb HS3 HO3 hl3
  -- behind the calls
  have fin : ∀ (tmps : Array Value) (W : World) (F : Nat → Nat), St E w p g N F W → RefV W p2 g2 N F → True := fun _ _ _ _ _ => trivial
  clear fin
  generalize hcm : cutO l = m at *
  have HM := Lib.hid hcm
  clear hcm
  cases hO with
  | empty a cap =>
    have hS := HS4.out
    have hR := HR4.out
    go_wp2
    refine wp_loop_rounds 1 ?_
    rw [rounds_succ]
    have S1 := size_N hS.arena
    have R1 := read_N hS.glob hS.arena 0 (N : Int)
    have hin : inB N 0 (N : Int) = true := inB_iff.2 ⟨by omega, by omega, by omega, by omega⟩
    have hr : readN N (fun _ => 0) 0 (N : Int) = readS (fun _ => 0) 0 N := by unfold readN; rw [hin]; rfl
    rw [chkN_code, hin, cond_true, hr] at R1
    have HX := Lib.hid (show ∀ W, Below w4.heap.size w4 W → W.cell? ⟨p2, 0, none⟩ = some (.slice (some ⟨g2, 0, none⟩) N N) ∧ (convert 48 9 (.slice (some ⟨g2, 0, none⟩) N N)).run Tryd.prog W = .ok (.string (readS (fun _ => 0) 0 N)) W from
      fun W h => ⟨(hR.next h).cell, conv_B (hR.next h).arr 0 N N 0 (by omega) (.inl rfl)⟩)
    have HX2 := Lib.hid (show ∀ W, Below w4.heap.size w4 W → Below w4.heap.size w4 W ∧ W.cell? ⟨p2, 0, none⟩ = some (.slice (some ⟨g2, 0, none⟩) N N) ∧ (convert 48 9 (.slice (some ⟨g2, 0, none⟩) N N)).run Tryd.prog W = .ok (.string (readS (fun _ => 0) 0 N)) W from fun W h => ⟨h, HX.out W h⟩)
    have HSZ := Lib.hid (fun W (h : Below w4.heap.size w4 W) => size_N (hS.read h).arena)
    have HCN := Lib.hid (fun W (h : Below w4.heap.size w4 W) => count_N (hS.read h).arena)
    have HRN := Lib.hid (fun W (h : Below w4.heap.size w4 W) => countR (hR.next h))
    have HBW := Lib.hid hS.below
    have HC : Below w4.heap.size w4 w4 := Below.refl _ _
    obtain ⟨cB, hcv⟩ := HX.out w4 HC
    generalize readS (fun _ => 0) 0 N = Xs at *
    generalize cntP (fun _ => 0) N = y at *
    clear hS hr hin hR
    go_wp2_with fail
    refine S1.mono ?_
    rintro r w' ⟨rfl, rfl⟩
    go_wp2_with fail
    refine R1.mono ?_
    rintro r w' ⟨rfl, rfl⟩
    clear S1 R1
    go_wp2_with fail
    first
      | go_region_held3 (fun W' => Below w4.heap.size w4 W' ∧ W'.cell? ⟨p2, 0, none⟩ = some (.slice (some ⟨g2, 0, none⟩) N N) ∧ (convert 48 9 (.slice (some ⟨g2, 0, none⟩) N N)).run Tryd.prog W' = .ok (.string Xs) W')
         ((refine HX2.out _ ?_; repeat (first | exact HC | exact HC.size | exact Nat.le_refl _ | refine Below.alloc ?_ ?_ _ | refine Below.drew ?_)))
         (first
          | (go_at_call 14; refine (HSZ.out _ ?_).mono ?_; (first | exact HC | exact HC.drew); rintro r w' ⟨rfl, rfl⟩)
          | (go_at_call 15; refine (HCN.out _ ?_).mono ?_; (first | exact HC | exact HC.drew); rintro r w' ⟨rfl, hb1⟩; have HC := (show Below w4.heap.size w4 w' from by first | exact blN HC hb1 | exact blN HC.drew hb1); obtain ⟨cB, hcv⟩ := HX.out _ HC)
          | (go_at_call 22; refine (HRN.out _ ?_).mono ?_; (first | exact HC | exact HC.drew); rintro r w' ⟨rfl, rfl⟩))
      | fail "held"
    all_goals
      go_wp2
      go_ret
      exact ⟨rfl, by first | exact blN HBW.out HC | exact blN HBW.out HC.drew⟩
  | some bb off cap m hl hm hc =>
    have HC := Lib.hid hc
    clear hc
    go_wp2
    go_loopw [10] (fun q W => ∃ j : Nat, j ≤ m.length ∧ q = .int .i64 (j : Int) ∧ St E w p g N (playF N (fun _ => 0) (m.take j)) W ∧ RefV W p2 g2 N (playF N (fun _ => 0) (m.take j)) ∧ (∀ i, i < m.length → OpAt W bb (off + i * 5) (m.getD i op0))) (fun q _ => m.length - (intOf q).toNat)
    case atStart => exact ⟨0, Nat.zero_le _, rfl, HS4.out, HR4.out, HC.out⟩
    case round =>
      obtain ⟨j, hj, rfl, hS, hR, hO⟩ := hrel
      by_cases hlt : j < m.length
      · have X := hO j hlt
        have hbg : bb ≠ g := by
          rintro rfl
          exact hS.arena.arr.not_int X.c0
        have hbg2 : bb ≠ g2 := by
          rintro rfl
          exact hR.arr.not_int X.c0
        have hd : Below wr.heap.size wr wr.drew := (Below.refl _ _).drew
        have hSd := hS.read hd
        have hRd := hR.next hd
        have hOd : ∀ i, i < m.length → OpAt wr.drew bb (off + i * 5) (m.getD i op0) := fun i hi => (hO i hi).below hd
        have C := do_N hSd.glob hSd.arena (m.getD j op0)
        have hvs := HCV.out j hlt
        unfold XOp.val at C
        rw [← playF_succ hlt] at C
        have hpl := playF_succ (n := N) (f := fun _ => 0) hlt
        have D := fun W (hW : RefV W p2 g2 N (playF N (fun _ => 0) (m.take j))) => want_N hW (m.getD j op0) hvs.1 hvs.2
        unfold XOp.val at D
        rw [← hpl] at D
        have HOd := Lib.hid hOd
        have HXJ := Lib.hid (fun W (h : ∀ i, i < m.length → OpAt W bb (off + i * 5) (m.getD i op0)) => h j hlt)
        generalize m.getD j op0 = x at *
        have HSd := Lib.hid hSd
        have HRd := Lib.hid hRd
        have c0 := X.c0
        have c1 := X.c1
        have c2 := X.c2
        have c3 := X.c3
        have c4 := X.c4
        have hlt' : (j : Int) < (m.length : Int) := by omega
        generalize doI N (playF N (fun _ => 0) (m.take j)) x = yi at *
        generalize doV N (playF N (fun _ => 0) (m.take j)) x = yv at *
        generalize doS N (playF N (fun _ => 0) (m.take j)) x = ys at *
        generalize doE N x = ye at *
        clear hO hS hR X hd hSd hRd hOd hpl hvs
        go_wp2_with fail
        go_region_with (first
          | (go_at_call 19; refine C.mono ?_; rintro r w5 ⟨rfl, hA5, hg5⟩
             have hS5 := HSd.out.write HG.out hA5 hg5
             have hR5 := HRd.out.apart hg5 hne.1.1 hne.1.2
             have hO5 : ∀ i, i < m.length → OpAt w5 bb (off + i * 5) (m.getD i op0) := fun i hi => (HOd.out i hi).same (hg5.block bb (cell_lt (HOd.out i hi).c0) (fun e => hbg (Option.some.inj e)))
             have X5 := HXJ.out w5 hO5
             have y0 := X5.c0
             have y1 := X5.c1
             have y2 := X5.c2
             have y3 := X5.c3
             have y4 := X5.c4
             have D5 := D w5 hR5
             have HS5 := Lib.hid hS5
             have HO5 := Lib.hid hO5
             clear hS5 hR5 hO5 X5 hA5 hg5)
          | (go_at_call 20; refine D5.mono ?_; rintro r w6 ⟨rfl, hR6, hg6⟩))
        all_goals
          have hB6 := below_grown HS5.out.below HS5.out.below.size hwg2 hg6
          have HS6 := Lib.hid (St.mk hB6 (HG.out.below hB6) (HS5.out.arena.apart hg6 hne.2.1 hne.2.2) HS5.out.hp HS5.out.hg)
          have HO6 : Hid (∀ i, i < m.length → OpAt w6 bb (off + i * 5) (m.getD i op0)) := Lib.hid (fun i hi => (HO5.out i hi).same (hg6.block bb (cell_lt (HO5.out i hi).c0) (fun e => hbg2 (Option.some.inj e))))
          have HR6 := Lib.hid hR6
          clear hB6 hg6 hR6 C D HS5 HO5 HSd HRd HOd HXJ
          go_wp2
          go_round
          case rel => exact ⟨j + 1, by omega, by go_num, HS6.out, HR6.out, HO6.out⟩
          case measure => simp [intOf]; omega
      · obtain rfl : j = m.length := by omega
        clear hO hlt hj
        have hd : Below wr.heap.size wr wr.drew := (Below.refl _ _).drew
        generalize playF N (fun _ => 0) (m.take m.length) = F at *
        have S1 := size_N hS.arena
        have R1 := read_N hS.glob hS.arena 0 (N : Int)
        have hin : inB N 0 (N : Int) = true := inB_iff.2 ⟨by omega, by omega, by omega, by omega⟩
        have hr : readN N F 0 (N : Int) = readS F 0 N := by unfold readN; rw [hin]; rfl
        rw [chkN_code, hin, cond_true, hr] at R1
        have HX := Lib.hid (show ∀ W, Below wr.heap.size wr W → W.cell? ⟨p2, 0, none⟩ = some (.slice (some ⟨g2, 0, none⟩) N N) ∧ (convert 48 9 (.slice (some ⟨g2, 0, none⟩) N N)).run Tryd.prog W = .ok (.string (readS F 0 N)) W from
          fun W h => ⟨(hR.next h).cell, conv_B (hR.next h).arr 0 N N 0 (by omega) (.inl rfl)⟩)
        have HX2 := Lib.hid (show ∀ W, Below wr.heap.size wr W → Below wr.heap.size wr W ∧ W.cell? ⟨p2, 0, none⟩ = some (.slice (some ⟨g2, 0, none⟩) N N) ∧ (convert 48 9 (.slice (some ⟨g2, 0, none⟩) N N)).run Tryd.prog W = .ok (.string (readS F 0 N)) W from fun W h => ⟨h, HX.out W h⟩)
        have HSZ := Lib.hid (fun W (h : Below wr.heap.size wr W) => size_N (hS.read h).arena)
        have HCN := Lib.hid (fun W (h : Below wr.heap.size wr W) => count_N (hS.read h).arena)
        have HRN := Lib.hid (fun W (h : Below wr.heap.size wr W) => countR (hR.next h))
        have HBW := Lib.hid hS.below
        have HC : Below wr.heap.size wr wr := Below.refl _ _
        obtain ⟨cB, hcv⟩ := HX.out wr HC
        generalize readS F 0 N = Xs at *
        generalize cntP F N = y at *
        clear hS hd hr hin hR
        go_wp2_with fail
        refine S1.mono ?_
        rintro r w' ⟨rfl, rfl⟩
        go_wp2_with fail
        refine R1.mono ?_
        rintro r w' ⟨rfl, rfl⟩
        clear S1 R1
        go_wp2_with fail
        first
          | go_region_held3 (fun W' => Below wr.heap.size wr W' ∧ W'.cell? ⟨p2, 0, none⟩ = some (.slice (some ⟨g2, 0, none⟩) N N) ∧ (convert 48 9 (.slice (some ⟨g2, 0, none⟩) N N)).run Tryd.prog W' = .ok (.string Xs) W')
             ((refine HX2.out _ ?_; repeat (first | exact HC | exact HC.size | exact Nat.le_refl _ | refine Below.alloc ?_ ?_ _ | refine Below.drew ?_)))
             (first
              | (go_at_call 14; refine (HSZ.out _ ?_).mono ?_; (first | exact HC | exact HC.drew); rintro r w' ⟨rfl, rfl⟩)
              | (go_at_call 15; refine (HCN.out _ ?_).mono ?_; (first | exact HC | exact HC.drew); rintro r w' ⟨rfl, hb1⟩; have HC := (show Below wr.heap.size wr w' from by first | exact blN HC hb1 | exact blN HC.drew hb1); obtain ⟨cB, hcv⟩ := HX.out _ HC)
              | (go_at_call 22; refine (HRN.out _ ?_).mono ?_; (first | exact HC | exact HC.drew); rintro r w' ⟨rfl, rfl⟩))
          | fail "held"
        all_goals
          go_wp2
          go_ret
          exact ⟨rfl, by first | exact blN HBW.out HC | exact blN HBW.out HC.drew⟩
end Go.Proofs.YtjoghbpekpgkpaaDoor

namespace Go.Proofs.YtjoghbpekpgkpaaDoor.lawArenaPlays
open Go Go.ChangeShapes Go.WideShapes Go.ChangeAt Go.RowKit
set_option maxRecDepth 100000 in
set_option linter.constructorNameAsVariable false in
theorem ops_open {H : Type} {enc : TypeId × Value → H} {W : World} {base : Nat} {v : Value} {d : DataW H} {ps : List MemPlace} (hok : Value.okWide Tryd.prog W .any base 34 v)
    (h : DataW.Trod enc Tryd.prog W 0 (fun _ => true) true 34 v d ps) : ∃ l, OpsV W v l ∧ ∀ i, i < l.length → (l.getD i op0).v < 4294967296 := ops_openV hok h
end Go.Proofs.YtjoghbpekpgkpaaDoor.lawArenaPlays

namespace Go.Proofs.YtjoghbpekpgkpaaDoor.lawArenaPlays
open Go.ChangeShapes Go.WideShapes Go.ChangeAt Go.RowKit
set_option maxRecDepth 100000 in
theorem told (H : Type) (enc : TypeId × Value → H) (W : World) (base : Nat) (args : Array Value) (ds gs : List (DataW H)) (before : List MemPlace)
    (hval : ∀ (j : Nat) t v, Tryd.f4.params[j]? = some t → args[j]? = some v → Value.okWide Tryd.prog W .any base t v)
    (hW : DataW.Whole enc Tryd.prog Tryd.f4.params.toList Rows.arenaPlaysSpec.vars false W args.toList ds gs before) (hL : laidMetH Tryd.prog laidL W) :
    Calls Tryd.prog 4 args W fun e W' => ∃ v, e = .returned v ∧ Rows.arenaPlaysSpec.post enc Tryd.prog Tryd.f4 false true false false W args v W' := by
  have hW' := hW
  obtain ⟨p, q, hA0, hV, rfl, hfz, hnd⟩ := hW
  have hA : DataW.TrodAll enc Tryd.prog W 0 (fun _ => true) true Tryd.f4.params.toList args.toList ds p := hA0
  rw [Tryd.params4] at hA hval
  obtain ⟨v0, vs0, d0, ds0, p0, q0, hargs, rfl, rfl, h0, r0⟩ := trodAll_cons hA
  obtain ⟨v1, vs1, d1, ds1, p1, q1, rfl, rfl, rfl, h1, r1⟩ := trodAll_cons r0
  obtain ⟨rfl, rfl, rfl⟩ := trodAll_nil r1
  obtain rfl : args = #[v0, v1] := by cases args; simp_all
  obtain ⟨rfl, rfl⟩ := trodVars_none hV
  have k0 := h0
  have k1 := h1
  obtain ⟨x0, rfl, rfl, rfl, wx0⟩ := open_int Tryd.underlying3 (hval 0 3 v0 rfl rfl) h0
  obtain ⟨l1, i1⟩ := ops_open (hval 1 34 v1 rfl rfl) h1
  clear hA0
  simp only [List.append_nil] at hW'
  obtain ⟨E, hGl⟩ := glob_of_laid hL
  refine (plays_law hGl x0 i1 wx0).mono fun e W' ⟨he, hb⟩ => ?_
  subst he
  have hlt := hW'.lt
  have harg0 := Below.trod laidOut (by kernel_rfl) (of_decide_eq_true (by kernel_rfl)) k0 hb (fun y hy => by first | (cases hy; done) | (simpa using hlt y (by simp [hy])))
  have harg1 := Below.trod laidOut (by kernel_rfl) (of_decide_eq_true (by kernel_rfl)) k1 hb (fun y hy => by first | (cases hy; done) | (simpa using hlt y (by simp [hy])))
  exact ⟨_, rfl, _, _, _, [], _, [], hW', trodAll_cons_mk (shut_bool Tryd.underlying4 _) trodAll_mk0, (trodAll_cons_mk harg0 (trodAll_cons_mk harg1 trodAll_mk0)), rfl, hb.frame _, fun h => by cases h⟩

set_option maxRecDepth 100000 in
theorem lifted (os : Os) (started : os.Started) (H : Type) (enc : TypeId × Value → H) :
    ReturnsInHanded {} Tryd.checked os 4 .any (fun w args => (Rows.arenaPlaysSpec.pre enc Tryd.prog Tryd.f4 [] false w args ∧ laidMetH Tryd.prog laidL w) ∧ sizedMet enc Tryd.prog Tryd.f4 (OpenSpec.ofChange Rows.arenaPlaysSpec) false w args)
      (Rows.arenaPlaysSpec.post enc Tryd.prog Tryd.f4 false true false false) := by
  refine returnsInHanded_of_change_and (C := Tryd.checked) (X := fun w _ => laidMetH Tryd.prog laidL w) (fun _ _ _ hh h => h.of_heap hh) own started (by kernel_rfl) Tryd.func4
    (ChangeSpec.witness_shaped (enc := enc) (C := Tryd.checked) (os := os) (X := fun w _ => laidMetH Tryd.prog laidL w) false (World.doorLaid Tryd.prog 123 os) #[.int .i64 0, .slice none 0 0] 8 rfl (World.shaped_of_RefB (by kernel_rfl) (by kernel_rfl)) (by kernel_rfl) (by kernel_rfl) (by kernel_rfl) (door_met os _)) ?_
  intro W base args ds gs before hval hW _ _ hL _
  exact told H enc W base args ds gs before hval hW hL

theorem said : Rows.ArenaPlaysSaid :=
  OpenClaim.holds_of_wide 4 Tryd.f4 rfl rfl rfl rfl rfl rfl rfl ⟨rfl, rfl, rfl, rfl, rfl⟩ rfl rfl rfl rfl rfl (by kernel_rfl) Tryd.func4 (by kernel_rfl)
    (of_decide_eq_true (by kernel_rfl)) (by unfold Func.isWrapper; first | (rw [if_pos (by decide +kernel)]; kernel_rfl) | (rw [if_neg (by decide +kernel)]; exact ⟨rfl, rfl⟩))
    (fun os started H enc _ => lifted os started H enc)

theorem plain (f : FuncId) (fn : Func) (hf : Tryd.pinned.checked.prog.funcNamed "selion/selionlaw03.ArenaPlays" = some f) (hfn : Tryd.pinned.checked.prog.funcs[f]? = some fn) :
    true = Tryd.pinned.checked.prog.looks [] ∧ ∀ (j : Nat) t, fn.params[j]? = some t → Tryd.pinned.checked.prog.wantsStandIn t = false := by
  obtain rfl : f = 4 := Option.some.inj ((show Tryd.prog.funcNamed "selion/selionlaw03.ArenaPlays" = some 4 by kernel_rfl).symm.trans hf) |>.symm
  obtain rfl : fn = Tryd.f4 := (Option.some.inj (Tryd.func4.symm.trans hfn)).symm
  refine ⟨by kernel_rfl, fun j t ht => ?_⟩
  have hm : t ∈ Tryd.f4.params := Array.mem_of_getElem? ht
  rw [Tryd.params4] at hm
  have hm' : t = 3 ∨ t = 34 := by simpa using hm
  rcases hm' with rfl | rfl
  · exact (show Tryd.prog.wantsStandIn 3 = false by kernel_rfl)
  · exact (show Tryd.prog.wantsStandIn 34 = false by kernel_rfl)

/-- THE CARD. -/
theorem card : Rows.ArenaPlaysCardSaid :=
  Claim7.holds_tied_plain_at .later [] _ _ _ _ said (fun _ h => by cases h) (by kernel_rfl) (fun _ h => by cases h) arenaPlays_row_tie rfl ⟨rfl, rfl⟩ (by kernel_rfl) rfl plain (by kernel_rfl)
end Go.Proofs.YtjoghbpekpgkpaaDoor.lawArenaPlays

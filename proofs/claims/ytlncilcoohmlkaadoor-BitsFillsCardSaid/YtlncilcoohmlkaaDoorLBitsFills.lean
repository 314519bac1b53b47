/- BitsFills holds of all bits, places: the law's own text walked, and the card. -/
import Derived.Test.YtlncilcoohmlkaaDoorU10
import Derived.Test.YtlncilcoohmlkaaDoorP5
import Derived.Test.YtlncilcoohmlkaaDoorU11
import Derived.Test.YtlncilcoohmlkaaDoorBx
import Derived.Test.YtlncilcoohmlkaaDoorG2
import Derived.Test.YtlncilcoohmlkaaDoorCards
import Derived.Test.YtlncilcoohmlkaaDoorTie
import Derived.BigQuiet
import Derived.Deep.RegionHeld3
namespace Go.Proofs.YtlncilcoohmlkaaDoor
open Go.RowKit
attribute [local go_sem ↓] Go.wp_at_zero Go.wp_at_succ
attribute [local go_sem ↓] run_max_int run_min_int

theorem bl {w W W' : World} (h : Below w.heap.size w W) (h' : Below W.heap.size W W') : Below w.heap.size w W' := h.trans (h'.mono h.size)

set_option maxHeartbeats 4000000 in
set_option maxRecDepth 20000 in
theorem fills_law {E : Env2} {w : World} (hGl : Glob2 E w) {n : Int} {v : Value} {ws : List Nat} (hv : WordsV w v ws) (i j : Int) :
    Calls Tryd.prog 7 #[.agg #[.int .i64 n, v], .int .i64 i, .int .i64 j] w fun r w' => r = .returned (.bool true) ∧ Below w.heap.size w w' := by
  have hl : (ws.take 12).length ≤ 1000 := by simp; omega
  generalize hl' : ws.take 12 = l' at hl
  have HL := Lib.hid hl'
  have HLL := Lib.hid hl
  obtain ⟨a, ca, rfl⟩ := hv.slice
  obtain ⟨w1, hw1, e0, e1, b1⟩ := allocs1 w (.cells #[.int .i64 n, .slice a ws.length ca] 24)
  have hb := e0
  have HG := Lib.hid hGl
  replace hGl := hGl.below e0
  replace hv := hv.below e0
  have m1 := shown_any hGl
  clear hl' hl e0 e1
  go_enter Tryd.func7, Tryd.ntmps7
  go_wp2_with fail
  refine m1.mono ?_
  rintro r w2 ⟨rfl, hb1⟩
  replace hb := hb.trans (hb1.mono hb.size)
  replace hGl := hGl.below hb1
  replace hv := hv.below hb1
  replace b1 := (hb1.block _ (block_lt b1)).trans b1
  clear m1 hb1 hw1
  have c0 := cells_cell (i := 0) b1 (v := .int .i64 n) rfl
  have c1 := cells_cell (i := 1) b1 (v := .slice a ws.length ca) rfl
  have m1 := cut_any2 (n := n) hv
  rw [HL.out] at m1
  clear HL
  go_wp2_with fail
  refine m1.mono ?_
  rintro r w3 ⟨⟨vc, rfl, hc⟩, hb1⟩
  obtain ⟨a', ca', rfl⟩ := hc.slice
  replace hb := hb.trans (hb1.mono hb.size)
  replace b1 := (hb1.block _ (block_lt b1)).trans b1
  clear m1 hb1 hGl hv c0 c1
  obtain ⟨w4, hw4, hb4, hGl, hW, b4, -⟩ := rebox HG.out hb (Nat.le_refl _) b1 n a' l'.length ca'
  replace hc := hW _ _ hc
  have c0 := cells_cell (i := 0) b1 (v := .int .i64 n) rfl
  have c1 := cells_cell (i := 1) b1 (v := .slice a ws.length ca) rfl
  have f0 := cells_free (i := 0) b1
  have f1 := cells_free (i := 1) b1
  have d0 := cells_cell (i := 0) b4 (v := .int .i64 n) rfl
  have d1 := cells_cell (i := 1) b4 (v := .slice a' l'.length ca') rfl
  have m1 := fill_any hGl (n := n) hc i j true
  clear b1 hW hb
  go_wp2_with fail
  refine m1.mono ?_
  rintro r w5 ⟨⟨v1, rfl, h1⟩, hb1⟩
  obtain ⟨a1, ca1, rfl⟩ := h1.slice
  obtain ⟨w6, hw6, e0, e1, b6⟩ := allocs1 w5 (.cells #[.int .i64 (fillN n l' i j), .slice a1 (fillL n l' i j true).length ca1] 24)
  have hbb := hb1.trans (e0.mono hb1.size)
  replace hb4 := hb4.trans (hbb.mono hb4.size)
  replace b4 := (hbb.block _ (block_lt b4)).trans b4
  replace hc := hc.below hbb
  replace h1 := h1.below e0
  replace hGl := hGl.below hbb
  clear c0 c1 d0 d1 f0 f1 m1 hb1 e0 e1 hbb hw4
  have c0 := cells_cell (i := 0) b4 (v := .int .i64 n) rfl
  have c1 := cells_cell (i := 1) b4 (v := .slice a' l'.length ca') rfl
  have m1 := fill_any hGl (n := n) hc i j false
  go_wp2_with fail
  refine m1.mono ?_
  rintro r w7 ⟨⟨v2, rfl, h2⟩, hb1⟩
  obtain ⟨a2, ca2, rfl⟩ := h2.slice
  obtain ⟨w8, hw8, e0, e1, b8⟩ := allocs1 w7 (.cells #[.int .i64 (fillN n l' i j), .slice a2 (fillL n l' i j false).length ca2] 24)
  have hbb := hb1.trans (e0.mono hb1.size)
  replace hb4 := hb4.trans (hbb.mono hb4.size)
  replace b6 := (hbb.block _ (block_lt b6)).trans b6
  replace h1 := h1.below hbb
  replace h2 := h2.below e0
  replace hGl := hGl.below hbb
  clear c0 c1 m1 hb1 e0 e1 hbb hw6 b4 hc
  have c0 := cells_cell (i := 0) b6 (v := .int .i64 (fillN n l' i j)) rfl
  have c1 := cells_cell (i := 1) b6 (v := .slice a1 (fillL n l' i j true).length ca1) rfl
  have m1 := fill_any hGl (n := fillN n l' i j) h1 i j false
  go_wp2_with fail
  refine m1.mono ?_
  rintro r w9 ⟨⟨v3, rfl, h3⟩, hb1⟩
  obtain ⟨a3, ca3, rfl⟩ := h3.slice
  obtain ⟨w10, hw10, e0, e1, b10⟩ := allocs1 w9 (.cells #[.int .i64 (fillN (fillN n l' i j) (fillL n l' i j true) i j), .slice a3 (fillL (fillN n l' i j) (fillL n l' i j true) i j false).length ca3] 24)
  have hbb := hb1.trans (e0.mono hb1.size)
  replace hb4 := hb4.trans (hbb.mono hb4.size)
  replace b6 := (hbb.block _ (block_lt b6)).trans b6
  replace b8 := (hbb.block _ (block_lt b8)).trans b8
  replace h1 := h1.below hbb
  replace h2 := h2.below hbb
  replace h3 := h3.below e0
  clear c0 c1 m1 hb1 e0 e1 hbb hw8 hGl
  have HL1 := Lib.hid (show (fillL n l' i j true) = (fillL n l' i j true) from rfl)
  cases hr : fillB n l' i j with
  | false =>
    have q0 : fillN n l' i j = 0 := by unfold fillN; rw [hr]; rfl
    have q1 : fillE n l' i j = 20 ∨ fillE n l' i j = 21 := by unfold fillE; rw [hr]; cases rightB n l' <;> simp
    rw [q0] at b6 hw10 ⊢
    generalize fillE n l' i j = e at q1 hw10 ⊢
    generalize fillN 0 (fillL n l' i j true) i j = n3 at hw10 ⊢
    generalize fillE 0 (fillL n l' i j true) i j = e3 at hw10 ⊢
    have c0 := cells_cell (i := 0) b6 (v := .int .i64 0) rfl
    clear q0 hr b8 b10 h1 h2 h3 HL1
    rcases q1 with rfl | rfl <;> (go_wp2; go_ret; exact ⟨rfl, hb4⟩)
  | true =>
    have hq := hr
    unfold fillB at hq
    rw [Bool.and_eq_true, Bool.and_eq_true, Bool.and_eq_true, decide_eq_true_iff, decide_eq_true_iff, decide_eq_true_iff] at hq
    obtain ⟨hr1, hi0, hij, hjn⟩ := hq
    obtain ⟨N, rfl, hN2, hlN, -⟩ := rightB_iff hr1
    obtain ⟨I, rfl⟩ : ∃ I : Nat, i = I := ⟨i.toNat, by omega⟩
    obtain ⟨k, rfl⟩ : ∃ k : Nat, j = ((I + k : Nat) : Int) := ⟨j.toNat - I, by omega⟩
    have hk : I + k ≤ N := by omega
    have q0 : fillN (N : Int) l' (I : Int) ((I + k : Nat) : Int) = (N : Int) := by unfold fillN; rw [hr]; rfl
    have q1 : fillE (N : Int) l' (I : Int) ((I + k : Nat) : Int) = 0 := by unfold fillE; rw [hr, hr1]; rfl
    have q2 : ∀ on, fillL (N : Int) l' (I : Int) ((I + k : Nat) : Int) on = fillW l' I k on := fun on => by unfold fillL; rw [hr, Int.toNat_natCast, Int.toNat_natCast, Nat.add_sub_cancel_left]; rfl
    have rf := right_fillW hr1 hk true
    have hr' : fillB (N : Int) (fillW l' I k true) (I : Int) ((I + k : Nat) : Int) = true := by unfold fillB; rw [rf, decide_eq_true hi0, decide_eq_true hij, decide_eq_true hjn]; rfl
    have p0 : fillN (N : Int) (fillW l' I k true) (I : Int) ((I + k : Nat) : Int) = (N : Int) := by unfold fillN; rw [hr']; rfl
    have p1 : fillE (N : Int) (fillW l' I k true) (I : Int) ((I + k : Nat) : Int) = 0 := by unfold fillE; rw [hr', rf]; rfl
    have p2 : fillL (N : Int) (fillW l' I k true) (I : Int) ((I + k : Nat) : Int) false = fillW (fillW l' I k true) I k false := by unfold fillL; rw [hr', Int.toNat_natCast, Int.toNat_natCast, Nat.add_sub_cancel_left]; rfl
    simp only [q0, q1, q2] at b6 b8 b10 h1 h2 h3 hw10 ⊢
    simp only [p0, p1, p2] at b10 h3 hw10 ⊢
    have hbo := fillW_both hr1 hk (fun j => h3.lt j) (fun j => h2.lt j)
    rw [hbo] at b10 h3 hw10 ⊢
    have hcn := count_fills hr1 hk
    have hl1 : (listI (N : Int) (fillW l' I k true)).length = (listN (N : Int) (fillW l' I k true)).length := by rw [listI_eq]; simp
    have hl2 : (listI (N : Int) (fillW l' I k false)).length = (listN (N : Int) (fillW l' I k false)).length := by rw [listI_eq]; simp
    have hle : (listN (N : Int) (fillW l' I k true)).length ≤ 20000 := by unfold listN; rw [rf]; exact Nat.le_trans (placesL_len _ _ _ _) (by simpa using hN2)
    have HS := Lib.hid (show ∀ W, Below w10.heap.size w10 W → Calls Tryd.prog 26 #[.agg #[.int .i64 (N : Int), .slice a3 (fillW l' I k false).length ca3], .agg #[.int .i64 (N : Int), .slice a2 (fillW l' I k false).length ca2]] W fun r w' => r = .returned (.bool true) ∧ Below W.heap.size W w' from fun W h => by
      have := same_any2 (n := (N : Int)) (m := (N : Int)) (h3.below h) (h2.below h)
      rwa [show sameB (N : Int) (fillW l' I k false) (N : Int) (fillW l' I k false) = true by unfold sameB; simp] at this)
    have HC1 := Lib.hid (show ∀ W, Below w10.heap.size w10 W → Calls Tryd.prog 18 #[.agg #[.int .i64 (N : Int), .slice a1 (fillW l' I k true).length ca1]] W fun r w' => r = .returned (.int .i64 ((listN (N : Int) (fillW l' I k true)).length : Int)) ∧ Below W.heap.size W w' from fun W h => by
      have := count_any2 (n := (N : Int)) (h1.below h)
      rwa [hl1] at this)
    have HC2 := Lib.hid (show ∀ W, Below w10.heap.size w10 W → Calls Tryd.prog 18 #[.agg #[.int .i64 (N : Int), .slice a2 (fillW l' I k false).length ca2]] W fun r w' => r = .returned (.int .i64 ((listN (N : Int) (fillW l' I k false)).length : Int)) ∧ Below W.heap.size W w' from fun W h => by
      have := count_any2 (n := (N : Int)) (h2.below h)
      rwa [hl2] at this)
    clear hl1 hl2 hbo p0 p1 p2 q0 q1 q2 hr' rf hr1 hr h1 h2 h3 HL1 hi0 hij hjn
    generalize hJ : I + k = J at *
    generalize (listN (N : Int) (fillW l' I k true)).length = x1 at *
    generalize (listN (N : Int) (fillW l' I k false)).length = x2 at *
    generalize (fillW l' I k true).length = u1 at *
    generalize (fillW l' I k false).length = u2 at *
    have iw1 : IntKind.i64.wrap ((x1 : Int) - (x2 : Int)) = (k : Int) := by rw [show (x1 : Int) - (x2 : Int) = (k : Int) by omega]; exact IntWalk.i64_in _ (by omega)
    have iw2 : IntKind.i64.wrap ((J : Int) - (I : Int)) = (k : Int) := by rw [show (J : Int) - (I : Int) = (k : Int) by omega]; exact IntWalk.i64_in _ (by omega)
    have g1 : ((k : Int) == (k : Int)) = true := by simp
    have c0 := cells_cell (i := 0) b6 (v := .int .i64 (N : Int)) rfl
    have c1 := cells_cell (i := 1) b6 (v := .slice a1 u1 ca1) rfl
    have d0 := cells_cell (i := 0) b8 (v := .int .i64 (N : Int)) rfl
    have d1 := cells_cell (i := 1) b8 (v := .slice a2 u2 ca2) rfl
    have o0 := cells_cell (i := 0) b10 (v := .int .i64 (N : Int)) rfl
    have o1 := cells_cell (i := 1) b10 (v := .slice a3 u2 ca3) rfl
    have HC : Below w10.heap.size w10 w10 := Below.refl _ _
    have HX := Lib.hid (show ∀ W, Below w10.heap.size w10 W → Below w10.heap.size w10 W ∧ W.cell? ⟨w5.heap.size, 0, none⟩ = some (.int .i64 (N : Int)) ∧ W.cell? ⟨w5.heap.size, 1, none⟩ = some (.slice a1 u1 ca1) ∧ W.cell? ⟨w7.heap.size, 0, none⟩ = some (.int .i64 (N : Int)) ∧ W.cell? ⟨w7.heap.size, 1, none⟩ = some (.slice a2 u2 ca2) ∧ W.cell? ⟨w9.heap.size, 0, none⟩ = some (.int .i64 (N : Int)) ∧ W.cell? ⟨w9.heap.size, 1, none⟩ = some (.slice a3 u2 ca3) from
      fun W h => ⟨h, (h.cell (p := ⟨w5.heap.size, 0, none⟩) (cell_lt c0)).trans c0, (h.cell (p := ⟨w5.heap.size, 1, none⟩) (cell_lt c1)).trans c1, (h.cell (p := ⟨w7.heap.size, 0, none⟩) (cell_lt d0)).trans d0, (h.cell (p := ⟨w7.heap.size, 1, none⟩) (cell_lt d1)).trans d1, (h.cell (p := ⟨w9.heap.size, 0, none⟩) (cell_lt o0)).trans o0, (h.cell (p := ⟨w9.heap.size, 1, none⟩) (cell_lt o1)).trans o1⟩)
    clear b6 b8 b10 hJ hcn hle HG HLL hlN hN2 hk
    go_wp2_with fail
    clear hw10
    first
      | go_region_held3 (fun W' => Below w10.heap.size w10 W' ∧ W'.cell? ⟨w5.heap.size, 0, none⟩ = some (.int .i64 (N : Int)) ∧ W'.cell? ⟨w5.heap.size, 1, none⟩ = some (.slice a1 u1 ca1) ∧ W'.cell? ⟨w7.heap.size, 0, none⟩ = some (.int .i64 (N : Int)) ∧ W'.cell? ⟨w7.heap.size, 1, none⟩ = some (.slice a2 u2 ca2) ∧ W'.cell? ⟨w9.heap.size, 0, none⟩ = some (.int .i64 (N : Int)) ∧ W'.cell? ⟨w9.heap.size, 1, none⟩ = some (.slice a3 u2 ca3))
         ((refine HX.out _ ?_; first | exact HC | exact HC.drew))
         (first
          | (go_at_call 26; refine (HS.out _ ?_).mono ?_; (first | exact HC | exact HC.drew); rintro r w' ⟨rfl, hb1⟩; have HC := (show Below w10.heap.size w10 w' from by first | exact bl HC hb1 | exact bl HC.drew hb1); obtain ⟨-, c0, c1, d0, d1, o0, o1⟩ := HX.out _ HC)
          | (go_at_call_of 18 (Value.agg #[.int .i64 (N : Int), .slice a1 u1 ca1]); refine (HC1.out _ ?_).mono ?_; (first | exact HC | exact HC.drew); rintro r w' ⟨rfl, hb1⟩; have HC := (show Below w10.heap.size w10 w' from by first | exact bl HC hb1 | exact bl HC.drew hb1); obtain ⟨-, c0, c1, d0, d1, o0, o1⟩ := HX.out _ HC)
          | (go_at_call_of 18 (Value.agg #[.int .i64 (N : Int), .slice a2 u2 ca2]); refine (HC2.out _ ?_).mono ?_; (first | exact HC | exact HC.drew); rintro r w' ⟨rfl, hb1⟩; have HC := (show Below w10.heap.size w10 w' from by first | exact bl HC hb1 | exact bl HC.drew hb1); obtain ⟨-, c0, c1, d0, d1, o0, o1⟩ := HX.out _ HC))
      | fail "held"
    all_goals
      go_wp2
      go_ret
      exact ⟨rfl, by first | exact bl hb4 HC | exact bl hb4 HC.drew⟩
end Go.Proofs.YtlncilcoohmlkaaDoor

namespace Go.Proofs.YtlncilcoohmlkaaDoor.lawBitsFills
open Go.ChangeShapes Go.WideShapes Go.ChangeAt Go.RowKit
set_option maxRecDepth 100000 in
theorem told (H : Type) (enc : TypeId × Value → H) (W : World) (base : Nat) (args : Array Value) (ds gs : List (DataW H)) (before : List MemPlace)
    (hval : ∀ (j : Nat) t v, Tryd.f7.params[j]? = some t → args[j]? = some v → Value.okWide Tryd.prog W .any base t v)
    (hW : DataW.Whole enc Tryd.prog Tryd.f7.params.toList Rows.bitsFillsSpec.vars false W args.toList ds gs before) (hL : laidMetH Tryd.prog laidL W) :
    Calls Tryd.prog 7 args W fun e W' => ∃ v, e = .returned v ∧ Rows.bitsFillsSpec.post enc Tryd.prog Tryd.f7 false true false false W args v W' := by
  have hW' := hW
  obtain ⟨p, q, hA0, hV, rfl, hfz, hnd⟩ := hW
  have hA : DataW.TrodAll enc Tryd.prog W 0 (fun _ => true) true Tryd.f7.params.toList args.toList ds p := hA0
  rw [Tryd.params7] at hA hval
  obtain ⟨v0, vs0, d0, ds0, p0, q0, hargs, rfl, rfl, h0, r0⟩ := trodAll_cons hA
  obtain ⟨v1, vs1, d1, ds1, p1, q1, rfl, rfl, rfl, h1, r1⟩ := trodAll_cons r0
  obtain ⟨v2, vs2, d2, ds2, p2, q2, rfl, rfl, rfl, h2, r2⟩ := trodAll_cons r1
  obtain ⟨rfl, rfl, rfl⟩ := trodAll_nil r2
  obtain rfl : args = #[v0, v1, v2] := by cases args; simp_all
  obtain ⟨rfl, rfl⟩ := trodVars_none hV
  have k0 := h0
  have k1 := h1
  have k2 := h2
  obtain ⟨n0, u0, l0, rfl, i0⟩ := bits_open (hval 0 24 v0 rfl rfl) h0
  obtain ⟨x1, rfl, rfl, rfl, wx1⟩ := open_int Tryd.underlying3 (hval 1 3 v1 rfl rfl) h1
  obtain ⟨x2, rfl, rfl, rfl, wx2⟩ := open_int Tryd.underlying3 (hval 2 3 v2 rfl rfl) h2
  clear hA0
  simp only [List.append_nil] at hW'
  obtain ⟨E, hGl⟩ := glob_of_laid hL
  refine (fills_law hGl i0 x1 x2).mono fun e W' ⟨he, hb⟩ => ?_
  subst he
  have hlt := hW'.lt
  have harg0 := Below.trod laidOut (by kernel_rfl) (of_decide_eq_true (by kernel_rfl)) k0 hb (fun y hy => by first | (cases hy; done) | (simpa using hlt y (by simp [hy])))
  have harg1 := Below.trod laidOut (by kernel_rfl) (of_decide_eq_true (by kernel_rfl)) k1 hb (fun y hy => by first | (cases hy; done) | (simpa using hlt y (by simp [hy])))
  have harg2 := Below.trod laidOut (by kernel_rfl) (of_decide_eq_true (by kernel_rfl)) k2 hb (fun y hy => by first | (cases hy; done) | (simpa using hlt y (by simp [hy])))
  exact ⟨_, rfl, _, _, _, [], _, [], hW', trodAll_cons_mk (shut_bool Tryd.underlying4 _) trodAll_mk0, (trodAll_cons_mk harg0 (trodAll_cons_mk harg1 (trodAll_cons_mk harg2 trodAll_mk0))), rfl, hb.frame _, fun h => by cases h⟩

set_option maxRecDepth 100000 in
theorem lifted (os : Os) (started : os.Started) (H : Type) (enc : TypeId × Value → H) :
    ReturnsInHanded {} Tryd.checked os 7 .any (fun w args => (Rows.bitsFillsSpec.pre enc Tryd.prog Tryd.f7 [] false w args ∧ laidMetH Tryd.prog laidL w) ∧ sizedMet enc Tryd.prog Tryd.f7 (OpenSpec.ofChange Rows.bitsFillsSpec) false w args)
      (Rows.bitsFillsSpec.post enc Tryd.prog Tryd.f7 false true false false) := by
  refine returnsInHanded_of_change_and (C := Tryd.checked) (X := fun w _ => laidMetH Tryd.prog laidL w) (fun _ _ _ hh h => h.of_heap hh) own started (by kernel_rfl) Tryd.func7
    (ChangeSpec.witness_shaped (enc := enc) (C := Tryd.checked) (os := os) (X := fun w _ => laidMetH Tryd.prog laidL w) false (World.doorLaid Tryd.prog 66 os) #[.agg #[.int .i64 0, .slice none 0 0], .int .i64 0, .int .i64 0] 8 rfl (World.shaped_of_RefB (by kernel_rfl) (by kernel_rfl)) (by kernel_rfl) (by kernel_rfl) (by kernel_rfl) (door_met os _)) ?_
  intro W base args ds gs before hval hW _ _ hL _
  exact told H enc W base args ds gs before hval hW hL

theorem said : Rows.BitsFillsSaid :=
  OpenClaim.holds_of_wide 7 Tryd.f7 rfl rfl rfl rfl rfl rfl rfl ⟨rfl, rfl, rfl, rfl, rfl⟩ rfl rfl rfl rfl rfl (by kernel_rfl) Tryd.func7 (by kernel_rfl)
    (of_decide_eq_true (by kernel_rfl)) (by unfold Func.isWrapper; first | (rw [if_pos (by decide +kernel)]; kernel_rfl) | (rw [if_neg (by decide +kernel)]; exact ⟨rfl, rfl⟩))
    (fun os started H enc _ => lifted os started H enc)

theorem plain (f : FuncId) (fn : Func) (hf : Tryd.pinned.checked.prog.funcNamed "selion/selionlaw02.BitsFills" = some f) (hfn : Tryd.pinned.checked.prog.funcs[f]? = some fn) :
    true = Tryd.pinned.checked.prog.looks [] ∧ ∀ (j : Nat) t, fn.params[j]? = some t → Tryd.pinned.checked.prog.wantsStandIn t = false := by
  obtain rfl : f = 7 := Option.some.inj ((show Tryd.prog.funcNamed "selion/selionlaw02.BitsFills" = some 7 by kernel_rfl).symm.trans hf) |>.symm
  obtain rfl : fn = Tryd.f7 := (Option.some.inj (Tryd.func7.symm.trans hfn)).symm
  refine ⟨by kernel_rfl, fun j t ht => ?_⟩
  have hm : t ∈ Tryd.f7.params := Array.mem_of_getElem? ht
  rw [Tryd.params7] at hm
  have hm' : t = 24 ∨ t = 3 := by simpa using hm
  rcases hm' with rfl | rfl
  · exact (show Tryd.prog.wantsStandIn 24 = false by kernel_rfl)
  · exact (show Tryd.prog.wantsStandIn 3 = false by kernel_rfl)

/-- THE CARD. -/
theorem card : Rows.BitsFillsCardSaid :=
  Claim7.holds_tied_plain_at .later [] _ _ _ _ said (fun _ h => by cases h) (by kernel_rfl) (fun _ h => by cases h) bitsFills_row_tie rfl ⟨rfl, rfl⟩ (by kernel_rfl) rfl plain (by kernel_rfl)
end Go.Proofs.YtlncilcoohmlkaaDoor.lawBitsFills

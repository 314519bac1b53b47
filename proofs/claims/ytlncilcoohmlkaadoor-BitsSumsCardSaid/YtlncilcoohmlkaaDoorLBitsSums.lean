/- BitsSums holds of all bits: the law's own text walked, and the card. -/
import Derived.Test.YtlncilcoohmlkaaDoorU10
import Derived.Test.YtlncilcoohmlkaaDoorU11
import Derived.Test.YtlncilcoohmlkaaDoorP6
import Derived.Test.YtlncilcoohmlkaaDoorBx
import Derived.Test.YtlncilcoohmlkaaDoorG2
import Derived.Test.YtlncilcoohmlkaaDoorCards
import Derived.Test.YtlncilcoohmlkaaDoorTie
import Derived.BigQuiet
import Derived.Deep.RegionHeld3
namespace Go.Proofs.YtlncilcoohmlkaaDoor
open Go.RowKit
attribute [local go_sem ↓] Go.wp_at_zero Go.wp_at_succ

theorem bl {w W W' : World} (h : Below w.heap.size w W) (h' : Below W.heap.size W W') : Below w.heap.size w W' := h.trans (h'.mono h.size)

set_option maxHeartbeats 8000000 in
set_option maxRecDepth 20000 in
theorem sums_law {E : Env2} {w : World} (hGl : Glob2 E w) {n m : Int} {v u : Value} {ws us : List Nat} (hv : WordsV w v ws) (hu : WordsV w u us) :
    Calls Tryd.prog 6 #[.agg #[.int .i64 n, v], .agg #[.int .i64 m, u]] w fun r w' => r = .returned (.bool true) ∧ Below w.heap.size w w' := by
  generalize hl' : ws.take 12 = l1
  generalize hm' : us.take 12 = l2
  have HL := Lib.hid hl'
  have HM := Lib.hid hm'
  obtain ⟨a, ca, rfl⟩ := hv.slice
  obtain ⟨b, cb, rfl⟩ := hu.slice
  obtain ⟨w1, hw1, e0, -, b1, b2⟩ := allocs2 w (.cells #[.int .i64 n, .slice a ws.length ca] 24) (.cells #[.int .i64 m, .slice b us.length cb] 24)
  have hb := e0
  have HG := Lib.hid hGl
  replace hGl := hGl.below e0
  replace hv := hv.below e0
  replace hu := hu.below e0
  have m1 := shown_any hGl
  clear hl' hm' e0
  go_enter Tryd.func6, Tryd.ntmps6
  go_wp2_with fail
  refine m1.mono ?_
  rintro r w2 ⟨rfl, hb1⟩
  replace hb := hb.trans (hb1.mono hb.size)
  replace hGl := hGl.below hb1
  replace hv := hv.below hb1
  replace hu := hu.below hb1
  replace b1 := (hb1.block _ (block_lt b1)).trans b1
  replace b2 := (hb1.block _ (block_lt b2)).trans b2
  clear m1 hb1 hw1
  have c0 := cells_cell (i := 0) b1 (v := .int .i64 n) rfl
  have c1 := cells_cell (i := 1) b1 (v := .slice a ws.length ca) rfl
  have m1 := cut_any2 (n := n) hv
  rw [HL.out] at m1
  clear HL
  go_wp2_with fail
  refine m1.mono ?_
  rintro r w3 ⟨⟨vc, rfl, hc⟩, hb1⟩
  obtain ⟨a', ca', rfl⟩ := hc.slice
  replace hb := hb.trans (hb1.mono hb.size)
  replace hu := hu.below hb1
  replace b1 := (hb1.block _ (block_lt b1)).trans b1
  replace b2 := (hb1.block _ (block_lt b2)).trans b2
  clear m1 hb1 hGl hv c0 c1
  obtain ⟨w4, hw4, hb4, hGl, hW, b1', hk⟩ := rebox HG.out hb (Nat.le_refl _) b1 n a' l1.length ca'
  replace hc := hW _ _ hc
  replace hu := hW _ _ hu
  replace b2 := (hk (w.heap.size + 1) (by omega)).trans b2
  have c0 := cells_cell (i := 0) b1 (v := .int .i64 n) rfl
  have c1 := cells_cell (i := 1) b1 (v := .slice a ws.length ca) rfl
  have f0 := cells_free (i := 0) b1
  have f1 := cells_free (i := 1) b1
  have d0 := cells_cell (i := 0) b2 (v := .int .i64 m) rfl
  have d1 := cells_cell (i := 1) b2 (v := .slice b us.length cb) rfl
  have m1 := cut_any2 (n := m) hu
  rw [HM.out] at m1
  clear HM b1 hW hb hk
  go_wp2_with fail
  refine m1.mono ?_
  rintro r w5 ⟨⟨vd, rfl, hd⟩, hb1⟩
  obtain ⟨b', cb', rfl⟩ := hd.slice
  replace hb4 := hb4.trans (hb1.mono hb4.size)
  replace hc := hc.below hb1
  replace b1' := (hb1.block _ (block_lt b1')).trans b1'
  replace b2 := (hb1.block _ (block_lt b2)).trans b2
  clear m1 hb1 hGl hu c0 c1 d0 d1 f0 f1 hw4
  obtain ⟨w6, hw6, hb6, hGl, hW, b2', hk⟩ := rebox HG.out hb4 (Nat.le_add_right _ 1) b2 m b' l2.length cb'
  replace hc := hW _ _ hc
  replace hd := hW _ _ hd
  replace b1' := (hk w.heap.size (by omega)).trans b1'
  have d0 := cells_cell (i := 0) b2 (v := .int .i64 m) rfl
  have d1 := cells_cell (i := 1) b2 (v := .slice b us.length cb) rfl
  have f0 := cells_free (i := 0) b2
  have f1 := cells_free (i := 1) b2
  have c0 := cells_cell (i := 0) b1' (v := .int .i64 n) rfl
  have c1 := cells_cell (i := 1) b1' (v := .slice a' l1.length ca') rfl
  have o0 := cells_cell (i := 0) b2' (v := .int .i64 m) rfl
  have o1 := cells_cell (i := 1) b2' (v := .slice b' l2.length cb') rfl
  clear b2 hW hb4 hk
  have m1 := either_any hGl (n := n) (m := m) hc hd
  go_wp2_with fail
  refine m1.mono ?_
  rintro r w7 ⟨⟨vr, rfl, hx⟩, hb1⟩
  obtain ⟨x, cx, rfl⟩ := hx.slice
  obtain ⟨w8, hw8, e0, -, bx⟩ := allocs1 w7 (.cells #[.int .i64 (eitherN n l1 m l2), .slice x (eitherL n l1 m l2).length cx] 24)
  have hbb := hb1.trans (e0.mono hb1.size)
  replace hb6 := hb6.trans (hbb.mono hb6.size)
  replace b1' := (hbb.block _ (block_lt b1')).trans b1'
  replace b2' := (hbb.block _ (block_lt b2')).trans b2'
  replace hc := hc.below hbb
  replace hd := hd.below hbb
  replace hx := hx.below e0
  replace hGl := hGl.below hbb
  clear m1 hb1 e0 hbb c0 c1 d0 d1 o0 o1 f0 f1 hw6
  cases hr : eitherB n l1 m l2 with
  | false =>
    have q0 : eitherN n l1 m l2 = 0 := by unfold eitherN; rw [hr]; rfl
    have q1 : eitherE n l1 m l2 = 20 := by unfold eitherE; rw [hr]; rfl
    have q2 : eitherL n l1 m l2 = [] := by unfold eitherL; rw [hr]; rfl
    rw [q0, q2, List.length_nil] at bx hw8
    rw [q2] at hx
    rw [q0, q1, q2, List.length_nil]
    replace hx : WordsV w8 (.slice x 0 cx) [] := hx
    have m1 := count_any2 (n := 0) hx
    have q3 : listI 0 ([] : List Nat) = [] := by decide
    rw [q3] at m1
    have x0 := cells_cell (i := 0) bx (v := .int .i64 0) rfl
    have x1 := cells_cell (i := 1) bx (v := .slice x 0 cx) rfl
    clear q0 q1 q2 q3 hr b1' b2' bx hx hc hd hGl
    go_wp2_with fail
    refine m1.mono ?_
    rintro r w9 ⟨rfl, hb1⟩
    replace hb6 := bl hb6 hb1
    clear hb1 m1 x0 x1
    go_wp2
    go_ret
    exact ⟨rfl, hb6⟩
  | true =>
    have hq := hr
    unfold eitherB at hq
    rw [Bool.and_eq_true, Bool.and_eq_true] at hq
    obtain ⟨hr1, hr2, hnm⟩ := hq
    obtain rfl : n = m := by simpa using hnm
    obtain ⟨N, rfl, hN2, hlN, -⟩ := rightB_iff hr1
    have q1 : eitherN (N : Int) l1 (N : Int) l2 = (N : Int) ∧ eitherE (N : Int) l1 (N : Int) l2 = 0 ∧ eitherL (N : Int) l1 (N : Int) l2 = orW l1 l2 := by unfold eitherN eitherE eitherL; rw [hr]; exact ⟨rfl, rfl, rfl⟩
    simp only [q1.1, q1.2.1, q1.2.2] at bx hx hw8 ⊢
    have hro := right_orW hr1 hr2
    have hcnt := count_orW hr1 hr2
    have hoff := off_count hro
    have hnx := Lib.hid (fun k (hk : k ≤ (offN N (orW l1 l2)).length) => next_off hro hk)
    have len : ∀ ws, (listI (N : Int) ws).length = (listN (N : Int) ws).length := fun ws => by rw [listI_eq]; simp
    have HC1 := Lib.hid (show ∀ W, Below w8.heap.size w8 W → Calls Tryd.prog 18 #[.agg #[.int .i64 (N : Int), .slice x (orW l1 l2).length cx]] W fun r w' => r = .returned (.int .i64 ((listN (N : Int) (orW l1 l2)).length : Int)) ∧ Below W.heap.size W w' from fun W h => by
      have := count_any2 (n := (N : Int)) (hx.below h)
      rwa [len] at this)
    have HC2 := Lib.hid (show ∀ W, Below w8.heap.size w8 W → Calls Tryd.prog 18 #[.agg #[.int .i64 (N : Int), .slice a' l1.length ca']] W fun r w' => r = .returned (.int .i64 ((listN (N : Int) l1).length : Int)) ∧ Below W.heap.size W w' from fun W h => by
      have := count_any2 (n := (N : Int)) (hc.below h)
      rwa [len] at this)
    have HC3 := Lib.hid (show ∀ W, Below w8.heap.size w8 W → Calls Tryd.prog 18 #[.agg #[.int .i64 (N : Int), .slice b' l2.length cb']] W fun r w' => r = .returned (.int .i64 ((listN (N : Int) l2).length : Int)) ∧ Below W.heap.size W w' from fun W h => by
      have := count_any2 (n := (N : Int)) (hd.below h)
      rwa [len] at this)
    have HN := Lib.hid (show ∀ W k, Below w8.heap.size w8 W → k ≤ (offN N (orW l1 l2)).length → Calls Tryd.prog 17 #[.agg #[.int .i64 (N : Int), .slice x (orW l1 l2).length cx], .int .i64 (fromP (offN N (orW l1 l2)) k : Nat), .bool false] W fun r w' => r = .returned (optP (offN N (orW l1 l2))[k]?) ∧ Below W.heap.size W w' from fun W k h hk => by
      have := next_any2 (n := (N : Int)) (hx.below h) (fromP (offN N (orW l1 l2)) k : Nat) false
      rwa [hnx.out k hk] at this)
    clear q1 hr hr1 hr2 hnm hro hx hc hd hGl hnx len
    have hlt : ∀ k, k < (offN N (orW l1 l2)).length → (offN N (orW l1 l2)).getD k 0 < N := fun k hk => by
      have : (offN N (orW l1 l2)).getD k 0 ∈ offN N (orW l1 l2) := by simp [List.getD, hk]
      unfold offN placesL at this
      exact List.mem_range.1 (List.mem_filter.1 this).1
    have HLT := Lib.hid hlt
    clear hlt
    generalize offN N (orW l1 l2) = O at *
    generalize (listN (N : Int) (orW l1 l2)).length = xc at *
    generalize (listN (N : Int) l1).length = xa at *
    generalize (listN (N : Int) l2).length = xb at *
    generalize (orW l1 l2).length = u1 at *
    have c0 := cells_cell (i := 0) b1' (v := .int .i64 (N : Int)) rfl
    have c1 := cells_cell (i := 1) b1' (v := .slice a' l1.length ca') rfl
    have o0 := cells_cell (i := 0) b2' (v := .int .i64 (N : Int)) rfl
    have o1 := cells_cell (i := 1) b2' (v := .slice b' l2.length cb') rfl
    have x0 := cells_cell (i := 0) bx (v := .int .i64 (N : Int)) rfl
    have x1 := cells_cell (i := 1) bx (v := .slice x u1 cx) rfl
    have HC0 : Below w8.heap.size w8 w8 := Below.refl _ _
    have HX := Lib.hid (show ∀ W, Below w8.heap.size w8 W → Below w8.heap.size w8 W ∧ W.cell? ⟨w.heap.size, 0, none⟩ = some (.int .i64 (N : Int)) ∧ W.cell? ⟨w.heap.size, 1, none⟩ = some (.slice a' l1.length ca') ∧ W.cell? ⟨w.heap.size + 1, 0, none⟩ = some (.int .i64 (N : Int)) ∧ W.cell? ⟨w.heap.size + 1, 1, none⟩ = some (.slice b' l2.length cb') ∧ W.cell? ⟨w7.heap.size, 0, none⟩ = some (.int .i64 (N : Int)) ∧ W.cell? ⟨w7.heap.size, 1, none⟩ = some (.slice x u1 cx) from
      fun W h => ⟨h, (h.cell (p := ⟨w.heap.size, 0, none⟩) (cell_lt c0)).trans c0, (h.cell (p := ⟨w.heap.size, 1, none⟩) (cell_lt c1)).trans c1, (h.cell (p := ⟨w.heap.size + 1, 0, none⟩) (cell_lt o0)).trans o0, (h.cell (p := ⟨w.heap.size + 1, 1, none⟩) (cell_lt o1)).trans o1, (h.cell (p := ⟨w7.heap.size, 0, none⟩) (cell_lt x0)).trans x0, (h.cell (p := ⟨w7.heap.size, 1, none⟩) (cell_lt x1)).trans x1⟩)
    have m1 := HN.out w8 0 HC0 (Nat.zero_le _)
    change Calls _ _ #[_, .int .i64 0, _] _ _ at m1
    clear b1' b2' bx HG c0 c1 o0 o1
    go_wp2_with fail
    refine m1.mono ?_
    rintro r w9 ⟨rfl, hb1⟩
    have hB9 := hb1.trans (Below.refl _ _)
    clear m1 hb1 x0 x1 hw8
    unfold optP
    go_wp2
    go_loopw [8, 9, 10] (fun k a o W => ∃ k' : Nat, k' ≤ O.length ∧ k = .int .i64 k' ∧ a = .int .i64 ((O[k']?).getD 0 : Nat) ∧ o = .bool (O[k']?).isSome ∧ Below w8.heap.size w8 W) (fun k _ _ _ => O.length - (intOf k).toNat)
    case atStart => exact ⟨0, Nat.zero_le _, rfl, rfl, rfl, hB9⟩
    case round =>
      obtain ⟨k, hk, rfl, rfl, rfl, hB⟩ := hrel
      obtain ⟨-, c0, c1, o0, o1, x0, x1⟩ := HX.out _ hB
      by_cases hlt : k < O.length
      · have hx := HLT.out k hlt
        have m1 := HN.out wr (k + 1) hB hlt
        have e1 : O[k]? = some (O.getD k 0) := by simp [List.getD, hlt]
        rw [fromP_succ] at m1
        rw [e1]
        clear e1
        generalize O.getD k 0 = y at *
        have iw : IntKind.i64.wrap ((y : Int) + 1) = (((y + 1 : Nat) : Nat) : Int) := IntWalk.i64_in _ (by omega)
        have iw2 : IntKind.i64.wrap ((k : Int) + 1) = (k : Int) + 1 := IntWalk.i64_in _ (by omega)
        have g1 : decide ((k : Int) ≤ (N : Int)) = true := decide_eq_true (by omega)
        have g2 : decide (k ≤ N) = true := decide_eq_true (by omega)
        push_cast at m1 iw
        clear hoff hcnt
        go_wp2_with fail
        refine m1.mono ?_
        rintro r w10 ⟨rfl, hb10⟩
        have hB10 := bl hB hb10
        clear m1 hb10
        unfold optP
        go_wp2
        go_round
        case rel => exact ⟨k + 1, by omega, by go_num, rfl, rfl, by first | exact hB10 | exact hB10.drew⟩
        case measure => simp [intOf]; omega
      · obtain rfl : k = O.length := by omega
        rw [List.getElem?_eq_none (Nat.le_refl _)]
        have HC := (Below.refl w8.heap.size w8).trans hB
        have g1 : decide ((xa : Int) ≤ (xc : Int)) = true := decide_eq_true (by omega)
        have g1' : decide (xa ≤ xc) = true := decide_eq_true (by omega)
        have g2 : decide ((xb : Int) ≤ (xc : Int)) = true := decide_eq_true (by omega)
        have g2' : decide (xb ≤ xc) = true := decide_eq_true (by omega)
        have iw1 : IntKind.i64.wrap ((xa : Int) + (xb : Int)) = (xa : Int) + (xb : Int) := IntWalk.i64_in _ (by omega)
        have g3 : decide ((xc : Int) ≤ (xa : Int) + (xb : Int)) = true := decide_eq_true (by omega)
        have g3' : decide (xc ≤ xa + xb) = true := decide_eq_true (by omega)
        have iw2 : IntKind.i64.wrap ((O.length : Int) + (xc : Int)) = (N : Int) := by rw [show (O.length : Int) + (xc : Int) = (N : Int) by omega]; exact IntWalk.i64_in _ (by omega)
        have g4 : ((N : Int) == (N : Int)) = true := by simp
        clear hcnt hoff hN2 hlN hk hlt
        go_wp2_with fail
        first
          | go_region_held3 (fun W' => Below w8.heap.size w8 W' ∧ W'.cell? ⟨w.heap.size, 0, none⟩ = some (.int .i64 (N : Int)) ∧ W'.cell? ⟨w.heap.size, 1, none⟩ = some (.slice a' l1.length ca') ∧ W'.cell? ⟨w.heap.size + 1, 0, none⟩ = some (.int .i64 (N : Int)) ∧ W'.cell? ⟨w.heap.size + 1, 1, none⟩ = some (.slice b' l2.length cb') ∧ W'.cell? ⟨w7.heap.size, 0, none⟩ = some (.int .i64 (N : Int)) ∧ W'.cell? ⟨w7.heap.size, 1, none⟩ = some (.slice x u1 cx))
             ((refine HX.out _ ?_; first | exact HC | exact HC.drew))
             (first
            | (go_at_call_of 18 (Value.agg #[.int .i64 (N : Int), .slice x u1 cx]); refine (HC1.out _ ?_).mono ?_; (first | exact HC | exact HC.drew); rintro r w' ⟨rfl, hb1⟩; have HC := (show Below w8.heap.size w8 w' from by first | exact bl HC hb1 | exact bl HC.drew hb1); obtain ⟨-, c0, c1, o0, o1, x0, x1⟩ := HX.out _ HC)
            | (go_at_call_of 18 (Value.agg #[.int .i64 (N : Int), .slice a' l1.length ca']); refine (HC2.out _ ?_).mono ?_; (first | exact HC | exact HC.drew); rintro r w' ⟨rfl, hb1⟩; have HC := (show Below w8.heap.size w8 w' from by first | exact bl HC hb1 | exact bl HC.drew hb1); obtain ⟨-, c0, c1, o0, o1, x0, x1⟩ := HX.out _ HC)
            | (go_at_call_of 18 (Value.agg #[.int .i64 (N : Int), .slice b' l2.length cb']); refine (HC3.out _ ?_).mono ?_; (first | exact HC | exact HC.drew); rintro r w' ⟨rfl, hb1⟩; have HC := (show Below w8.heap.size w8 w' from by first | exact bl HC hb1 | exact bl HC.drew hb1); obtain ⟨-, c0, c1, o0, o1, x0, x1⟩ := HX.out _ HC))
          | fail "held"
        all_goals
          go_wp2
          go_ret
          exact ⟨rfl, by first | exact bl hb6 HC | exact bl hb6 HC.drew⟩
end Go.Proofs.YtlncilcoohmlkaaDoor

namespace Go.Proofs.YtlncilcoohmlkaaDoor.lawBitsSums
open Go.ChangeShapes Go.WideShapes Go.ChangeAt Go.RowKit
set_option maxRecDepth 100000 in
theorem told (H : Type) (enc : TypeId × Value → H) (W : World) (base : Nat) (args : Array Value) (ds gs : List (DataW H)) (before : List MemPlace)
    (hval : ∀ (j : Nat) t v, Tryd.f6.params[j]? = some t → args[j]? = some v → Value.okWide Tryd.prog W .any base t v)
    (hW : DataW.Whole enc Tryd.prog Tryd.f6.params.toList Rows.bitsSumsSpec.vars false W args.toList ds gs before) (hL : laidMetH Tryd.prog laidL W) :
    Calls Tryd.prog 6 args W fun e W' => ∃ v, e = .returned v ∧ Rows.bitsSumsSpec.post enc Tryd.prog Tryd.f6 false true false false W args v W' := by
  have hW' := hW
  obtain ⟨p, q, hA0, hV, rfl, hfz, hnd⟩ := hW
  have hA : DataW.TrodAll enc Tryd.prog W 0 (fun _ => true) true Tryd.f6.params.toList args.toList ds p := hA0
  rw [Tryd.params6] at hA hval
  obtain ⟨v0, vs0, d0, ds0, p0, q0, hargs, rfl, rfl, h0, r0⟩ := trodAll_cons hA
  obtain ⟨v1, vs1, d1, ds1, p1, q1, rfl, rfl, rfl, h1, r1⟩ := trodAll_cons r0
  obtain ⟨rfl, rfl, rfl⟩ := trodAll_nil r1
  obtain rfl : args = #[v0, v1] := by cases args; simp_all
  obtain ⟨rfl, rfl⟩ := trodVars_none hV
  have k0 := h0
  have k1 := h1
  obtain ⟨n0, u0, l0, rfl, i0⟩ := bits_open (hval 0 24 v0 rfl rfl) h0
  obtain ⟨n1, u1, l1, rfl, i1⟩ := bits_open (hval 1 24 v1 rfl rfl) h1
  clear hA0
  simp only [List.append_nil] at hW'
  obtain ⟨E, hGl⟩ := glob_of_laid hL
  refine (sums_law hGl i0 i1).mono fun e W' ⟨he, hb⟩ => ?_
  subst he
  have hlt := hW'.lt
  have harg0 := Below.trod laidOut (by kernel_rfl) (of_decide_eq_true (by kernel_rfl)) k0 hb (fun y hy => by first | (cases hy; done) | (simpa using hlt y (by simp [hy])))
  have harg1 := Below.trod laidOut (by kernel_rfl) (of_decide_eq_true (by kernel_rfl)) k1 hb (fun y hy => by first | (cases hy; done) | (simpa using hlt y (by simp [hy])))
  exact ⟨_, rfl, _, _, _, [], _, [], hW', trodAll_cons_mk (shut_bool Tryd.underlying4 _) trodAll_mk0, (trodAll_cons_mk harg0 (trodAll_cons_mk harg1 trodAll_mk0)), rfl, hb.frame _, fun h => by cases h⟩

set_option maxRecDepth 100000 in
theorem lifted (os : Os) (started : os.Started) (H : Type) (enc : TypeId × Value → H) :
    ReturnsInHanded {} Tryd.checked os 6 .any (fun w args => (Rows.bitsSumsSpec.pre enc Tryd.prog Tryd.f6 [] false w args ∧ laidMetH Tryd.prog laidL w) ∧ sizedMet enc Tryd.prog Tryd.f6 (OpenSpec.ofChange Rows.bitsSumsSpec) false w args)
      (Rows.bitsSumsSpec.post enc Tryd.prog Tryd.f6 false true false false) := by
  refine returnsInHanded_of_change_and (C := Tryd.checked) (X := fun w _ => laidMetH Tryd.prog laidL w) (fun _ _ _ hh h => h.of_heap hh) own started (by kernel_rfl) Tryd.func6
    (ChangeSpec.witness_shaped (enc := enc) (C := Tryd.checked) (os := os) (X := fun w _ => laidMetH Tryd.prog laidL w) false (World.doorLaid Tryd.prog 66 os) #[.agg #[.int .i64 0, .slice none 0 0], .agg #[.int .i64 0, .slice none 0 0]] 8 rfl (World.shaped_of_RefB (by kernel_rfl) (by kernel_rfl)) (by kernel_rfl) (by kernel_rfl) (by kernel_rfl) (door_met os _)) ?_
  intro W base args ds gs before hval hW _ _ hL _
  exact told H enc W base args ds gs before hval hW hL

theorem said : Rows.BitsSumsSaid :=
  OpenClaim.holds_of_wide 6 Tryd.f6 rfl rfl rfl rfl rfl rfl rfl ⟨rfl, rfl, rfl, rfl, rfl⟩ rfl rfl rfl rfl rfl (by kernel_rfl) Tryd.func6 (by kernel_rfl)
    (of_decide_eq_true (by kernel_rfl)) (by unfold Func.isWrapper; first | (rw [if_pos (by decide +kernel)]; kernel_rfl) | (rw [if_neg (by decide +kernel)]; exact ⟨rfl, rfl⟩))
    (fun os started H enc _ => lifted os started H enc)

theorem plain (f : FuncId) (fn : Func) (hf : Tryd.pinned.checked.prog.funcNamed "selion/selionlaw02.BitsSums" = some f) (hfn : Tryd.pinned.checked.prog.funcs[f]? = some fn) :
    true = Tryd.pinned.checked.prog.looks [] ∧ ∀ (j : Nat) t, fn.params[j]? = some t → Tryd.pinned.checked.prog.wantsStandIn t = false := by
  obtain rfl : f = 6 := Option.some.inj ((show Tryd.prog.funcNamed "selion/selionlaw02.BitsSums" = some 6 by kernel_rfl).symm.trans hf) |>.symm
  obtain rfl : fn = Tryd.f6 := (Option.some.inj (Tryd.func6.symm.trans hfn)).symm
  refine ⟨by kernel_rfl, fun j t ht => ?_⟩
  have hm : t ∈ Tryd.f6.params := Array.mem_of_getElem? ht
  rw [Tryd.params6] at hm
  have hm' : t = 24 := by simpa using hm
  subst hm'
  exact (show Tryd.prog.wantsStandIn 24 = false by kernel_rfl)

/-- THE CARD. -/
theorem card : Rows.BitsSumsCardSaid :=
  Claim7.holds_tied_plain_at .later [] _ _ _ _ said (fun _ h => by cases h) (by kernel_rfl) (fun _ h => by cases h) bitsSums_row_tie rfl ⟨rfl, rfl⟩ (by kernel_rfl) rfl plain (by kernel_rfl)
end Go.Proofs.YtlncilcoohmlkaaDoor.lawBitsSums

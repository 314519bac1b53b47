/- BitsTells holds of all bits, places, numbers: the law's own text walked, and the card. -/
import Derived.Test.YtlncilcoohmlkaaDoorU10
import Derived.Test.YtlncilcoohmlkaaDoorU11
import Derived.Test.YtlncilcoohmlkaaDoorP6
import Derived.Test.YtlncilcoohmlkaaDoorV2
import Derived.Test.YtlncilcoohmlkaaDoorIn
import Derived.Test.YtlncilcoohmlkaaDoorBx
import Derived.Test.YtlncilcoohmlkaaDoorG2
import Derived.Test.YtlncilcoohmlkaaDoorCards
import Derived.Test.YtlncilcoohmlkaaDoorTie
import Derived.BigQuiet
import Derived.Deep.RegionHeld3
namespace Go.Proofs.YtlncilcoohmlkaaDoor
open Go.RowKit
attribute [local go_sem ↓] Go.wp_at_zero Go.wp_at_succ

theorem bl {w W W' : World} (h : Below w.heap.size w W) (h' : Below W.heap.size W W') : Below w.heap.size w W' := h.trans (h'.mono h.size)

set_option maxHeartbeats 8000000 in
set_option maxRecDepth 20000 in
theorem tells_law {E : Env2} {w : World} (hGl : Glob2 E w) {n m : Int} {v u : Value} {ws us : List Nat} (hv : WordsV w v ws) (hu : WordsV w u us) (i q : Int) :
    Calls Tryd.prog 9 #[.agg #[.int .i64 n, v], .agg #[.int .i64 m, u], .int .i64 i, .int .i64 q] w fun r w' => r = .returned (.bool true) ∧ Below w.heap.size w w' := by
  have hl12 : (ws.take 12).length ≤ 20000 := by simp; omega
  generalize hl' : ws.take 12 = l1 at hl12
  have HL12 := Lib.hid hl12
  generalize hm' : us.take 12 = l2
  have HL := Lib.hid hl'
  have HM := Lib.hid hm'
  obtain ⟨a, ca, rfl⟩ := hv.slice
  obtain ⟨b, cb, rfl⟩ := hu.slice
  obtain ⟨w1, hw1, e0, -, b1, b2⟩ := allocs2 w (.cells #[.int .i64 n, .slice a ws.length ca] 24) (.cells #[.int .i64 m, .slice b us.length cb] 24)
  have hb := e0
  have HG := Lib.hid hGl
  replace hGl := hGl.below e0
  replace hv := hv.below e0
  replace hu := hu.below e0
  have m1 := shown_any hGl
  clear hl' hm' e0 hl12
  go_enter Tryd.func9, Tryd.ntmps9
  go_wp2_with fail
  refine m1.mono ?_
  rintro r w2 ⟨rfl, hb1⟩
  replace hb := hb.trans (hb1.mono hb.size)
  replace hGl := hGl.below hb1
  replace hv := hv.below hb1
  replace hu := hu.below hb1
  replace b1 := (hb1.block _ (block_lt b1)).trans b1
  replace b2 := (hb1.block _ (block_lt b2)).trans b2
  clear m1 hb1 hw1
  have c0 := cells_cell (i := 0) b1 (v := .int .i64 n) rfl
  have c1 := cells_cell (i := 1) b1 (v := .slice a ws.length ca) rfl
  have m1 := cut_any2 (n := n) hv
  rw [HL.out] at m1
  clear HL
  go_wp2_with fail
  refine m1.mono ?_
  rintro r w3 ⟨⟨vc, rfl, hc⟩, hb1⟩
  obtain ⟨a', ca', rfl⟩ := hc.slice
  replace hb := hb.trans (hb1.mono hb.size)
  replace hu := hu.below hb1
  replace b1 := (hb1.block _ (block_lt b1)).trans b1
  replace b2 := (hb1.block _ (block_lt b2)).trans b2
  clear m1 hb1 hGl hv c0 c1
  obtain ⟨w4, hw4, hb4, hGl, hW, b1', hk⟩ := rebox HG.out hb (Nat.le_refl _) b1 n a' l1.length ca'
  replace hc := hW _ _ hc
  replace hu := hW _ _ hu
  replace b2 := (hk (w.heap.size + 1) (by omega)).trans b2
  have c0 := cells_cell (i := 0) b1 (v := .int .i64 n) rfl
  have c1 := cells_cell (i := 1) b1 (v := .slice a ws.length ca) rfl
  have f0 := cells_free (i := 0) b1
  have f1 := cells_free (i := 1) b1
  have d0 := cells_cell (i := 0) b2 (v := .int .i64 m) rfl
  have d1 := cells_cell (i := 1) b2 (v := .slice b us.length cb) rfl
  have m1 := cut_any2 (n := m) hu
  rw [HM.out] at m1
  clear HM b1 hW hb hk
  go_wp2_with fail
  refine m1.mono ?_
  rintro r w5 ⟨⟨vd, rfl, hd⟩, hb1⟩
  obtain ⟨b', cb', rfl⟩ := hd.slice
  replace hb4 := hb4.trans (hb1.mono hb4.size)
  replace hc := hc.below hb1
  replace b1' := (hb1.block _ (block_lt b1')).trans b1'
  replace b2 := (hb1.block _ (block_lt b2)).trans b2
  clear m1 hb1 hGl hu c0 c1 d0 d1 f0 f1 hw4
  obtain ⟨w6, hw6, hb6, hGl, hW, b2', hk⟩ := rebox HG.out hb4 (Nat.le_add_right _ 1) b2 m b' l2.length cb'
  replace hc := hW _ _ hc
  replace hd := hW _ _ hd
  replace b1' := (hk w.heap.size (by omega)).trans b1'
  have d0 := cells_cell (i := 0) b2 (v := .int .i64 m) rfl
  have d1 := cells_cell (i := 1) b2 (v := .slice b us.length cb) rfl
  have f0 := cells_free (i := 0) b2
  have f1 := cells_free (i := 1) b2
  have c0 := cells_cell (i := 0) b1' (v := .int .i64 n) rfl
  have c1 := cells_cell (i := 1) b1' (v := .slice a' l1.length ca') rfl
  have o0 := cells_cell (i := 0) b2' (v := .int .i64 m) rfl
  have o1 := cells_cell (i := 1) b2' (v := .slice b' l2.length cb') rfl
  clear b2 hW hb4 hk
  have m1 := make_any2 hGl q
  go_wp2_with fail
  refine m1.mono ?_
  rintro r w7 ⟨⟨vr, rfl, hx⟩, hb1⟩
  obtain ⟨x, cx, rfl⟩ := hx.slice
  obtain ⟨w8, hw8, e0, -, bx⟩ := allocs1 w7 (.cells #[.int .i64 (makeN q), .slice x (makeL q).length cx] 24)
  have hbb := hb1.trans (e0.mono hb1.size)
  replace hb6 := hb6.trans (hbb.mono hb6.size)
  replace b1' := (hbb.block _ (block_lt b1')).trans b1'
  replace b2' := (hbb.block _ (block_lt b2')).trans b2'
  replace hc := hc.below hbb
  replace hd := hd.below hbb
  replace hx := hx.below e0
  replace hGl := hGl.below hbb
  clear m1 hb1 e0 hbb c0 c1 d0 d1 o0 o1 f0 f1 hw6
  have m1 := makeRef_any (w := w8) q
  go_wp2_with fail
  refine m1.mono ?_
  rintro r w9 ⟨⟨vr, rfl, hy⟩, hb1⟩
  obtain ⟨y, cy, rfl⟩ := hy.slice
  obtain ⟨w10, hw10, e0, -, bY⟩ := allocs1 w9 (.cells #[.int .i64 (makeN q), .slice y (makeL q).length cy] 24)
  have hbb := hb1.trans (e0.mono hb1.size)
  replace hb6 := hb6.trans (hbb.mono hb6.size)
  replace b1' := (hbb.block _ (block_lt b1')).trans b1'
  replace b2' := (hbb.block _ (block_lt b2')).trans b2'
  replace bx := (hbb.block _ (block_lt bx)).trans bx
  replace hc := hc.below hbb
  replace hd := hd.below hbb
  replace hx := hx.below hbb
  replace hy := hy.below e0
  replace hGl := hGl.below hbb
  clear m1 hb1 e0 hbb hw8
  have hl12 := HL12.out
  have HR1 := Lib.hid (show ∀ W, Below w10.heap.size w10 W → Calls Tryd.prog 14 #[.agg #[.int .i64 n, .slice a' l1.length ca']] W fun r w' => r = .returned (.bool (rightB n l1)) ∧ Below W.heap.size W w' from fun W h => right_any2 (hc.below h))
  have HR2 := Lib.hid (show ∀ W, Below w10.heap.size w10 W → Calls Tryd.prog 29 #[.agg #[.int .i64 n, .slice a' l1.length ca']] W fun r w' => r = .returned (.bool (rightB n l1)) ∧ Below W.heap.size W w' from fun W h => rightRef_any (hc.below h) hl12)
  have HH1 := Lib.hid (show ∀ W, Below w10.heap.size w10 W → Calls Tryd.prog 15 #[.agg #[.int .i64 n, .slice a' l1.length ca'], .int .i64 i] W fun r w' => r = .returned (.bool (hasB n l1 i)) ∧ Below W.heap.size W w' from fun W h => has_any (hc.below h) i)
  have HH2 := Lib.hid (show ∀ W, Below w10.heap.size w10 W → Calls Tryd.prog 30 #[.agg #[.int .i64 n, .slice a' l1.length ca'], .int .i64 i] W fun r w' => r = .returned (.bool (hasB n l1 i)) ∧ Below W.heap.size W w' from fun W h => hasRef_any (hc.below h) hl12 i)
  have HC1 := Lib.hid (show ∀ W, Below w10.heap.size w10 W → Calls Tryd.prog 18 #[.agg #[.int .i64 n, .slice a' l1.length ca']] W fun r w' => r = .returned (.int .i64 ((listI n l1).length : Int)) ∧ Below W.heap.size W w' from fun W h => count_any2 (hc.below h))
  have HC2 := Lib.hid (show ∀ W, Below w10.heap.size w10 W → Calls Tryd.prog 31 #[.agg #[.int .i64 n, .slice a' l1.length ca']] W fun r w' => r = .returned (.int .i64 ((listI n l1).length : Int)) ∧ Below W.heap.size W w' from fun W h => countRef_any (hc.below h) hl12)
  have HL1 := Lib.hid (show ∀ W, Below w10.heap.size w10 W → Calls Tryd.prog 16 #[.agg #[.int .i64 n, .slice a' l1.length ca']] W fun r w' => (∃ v', r = .returned v' ∧ IntsV w' v' (listI n l1)) ∧ Below W.heap.size W w' from fun W h => list_any (hc.below h))
  have HL2 := Lib.hid (show ∀ W, Below w10.heap.size w10 W → Calls Tryd.prog 33 #[.agg #[.int .i64 n, .slice a' l1.length ca']] W fun r w' => (∃ v', r = .returned v' ∧ IntsV w' v' (listI n l1)) ∧ Below W.heap.size W w' from fun W h => listRef_any (hc.below h) hl12)
  have HS1 := Lib.hid (show ∀ W (m' : Int) (v' : Value) (l' : List Nat), Below w10.heap.size w10 W → WordsV w10 v' l' → Calls Tryd.prog 26 #[.agg #[.int .i64 n, .slice a' l1.length ca'], .agg #[.int .i64 m', v']] W fun r w' => r = .returned (.bool (sameB n l1 m' l')) ∧ Below W.heap.size W w' from fun W m' v' l' h h' => same_any2 (hc.below h) (h'.below h))
  have HCc := Lib.hid hc
  have HDd := Lib.hid hd
  have hs3 : sameB n l1 n l1 = true := by unfold sameB; simp
  have HS2 := Lib.hid (show ∀ W, Below w10.heap.size w10 W → Calls Tryd.prog 25 #[.agg #[.int .i64 n, .slice a' l1.length ca'], .agg #[.int .i64 m, .slice b' l2.length cb']] W fun r w' => r = .returned (.bool (sameB n l1 m l2)) ∧ Below W.heap.size W w' from fun W h => refSame_any (hc.below h) (hd.below h))
  have HS4 := Lib.hid (show ∀ W, Below w10.heap.size w10 W → Calls Tryd.prog 25 #[.agg #[.int .i64 (makeN q), .slice x (makeL q).length cx], .agg #[.int .i64 (makeN q), .slice y (makeL q).length cy]] W fun r w' => r = .returned (.bool true) ∧ Below W.heap.size W w' from fun W h => by
    have := refSame_any (n := makeN q) (m := makeN q) (hx.below h) (hy.below h)
    rwa [show sameB (makeN q) (makeL q) (makeN q) (makeL q) = true by unfold sameB; simp] at this)
  clear hx hy hc hd hGl hl12 HL12
  generalize rightB n l1 = t1 at *
  generalize hasB n l1 i = t2 at *
  generalize ht3 : sameB n l1 m l2 = t3 at *
  have T3 := Lib.hid ht3
  clear ht3
  generalize (makeL q).length = u1 at *
  generalize makeN q = n1 at *
  generalize makeE q = e1 at *
  have HII := Lib.hid (fun (w : World) (u v : Value) (hu : IntsV w u (listI n l1)) (hv : IntsV w v (listI n l1)) => show Calls Tryd.prog 32 #[u, v] w fun r w' => r = .returned (.bool true) ∧ Below w.heap.size w w' by
    have := ints_any hu hv
    rwa [decide_eq_true rfl] at this)
  generalize (listI n l1).length = y1 at *
  have g1 : (t1 == t1) = true := by simp
  have g2 : (t2 == t2) = true := by simp
  have g3 : (t3 == t3) = true := by simp
  have g4 : ((y1 : Int) == (y1 : Int)) = true := by simp
  have g5 : (e1 == e1) = true := by simp
  have c0 := cells_cell (i := 0) b1' (v := .int .i64 (n)) rfl
  have c1 := cells_cell (i := 1) b1' (v := .slice a' l1.length ca') rfl
  have o0 := cells_cell (i := 0) b2' (v := .int .i64 (m)) rfl
  have o1 := cells_cell (i := 1) b2' (v := .slice b' l2.length cb') rfl
  have x0 := cells_cell (i := 0) bx (v := .int .i64 (n1)) rfl
  have x1 := cells_cell (i := 1) bx (v := .slice x u1 cx) rfl
  have y0 := cells_cell (i := 0) bY (v := .int .i64 (n1)) rfl
  have y1 := cells_cell (i := 1) bY (v := .slice y u1 cy) rfl
  have HC : Below w10.heap.size w10 w10 := Below.refl _ _
  have HX := Lib.hid (show ∀ W, Below w10.heap.size w10 W → Below w10.heap.size w10 W ∧ W.cell? ⟨w.heap.size, 0, none⟩ = some (.int .i64 n) ∧ W.cell? ⟨w.heap.size, 1, none⟩ = some (.slice a' l1.length ca') ∧ W.cell? ⟨w.heap.size + 1, 0, none⟩ = some (.int .i64 m) ∧ W.cell? ⟨w.heap.size + 1, 1, none⟩ = some (.slice b' l2.length cb') ∧ W.cell? ⟨w7.heap.size, 0, none⟩ = some (.int .i64 n1) ∧ W.cell? ⟨w7.heap.size, 1, none⟩ = some (.slice x u1 cx) ∧ W.cell? ⟨w9.heap.size, 0, none⟩ = some (.int .i64 n1) ∧ W.cell? ⟨w9.heap.size, 1, none⟩ = some (.slice y u1 cy) from
    fun W h => ⟨h, (h.cell (p := ⟨w.heap.size, 0, none⟩) (cell_lt c0)).trans c0, (h.cell (p := ⟨w.heap.size, 1, none⟩) (cell_lt c1)).trans c1, (h.cell (p := ⟨w.heap.size + 1, 0, none⟩) (cell_lt o0)).trans o0, (h.cell (p := ⟨w.heap.size + 1, 1, none⟩) (cell_lt o1)).trans o1, (h.cell (p := ⟨w7.heap.size, 0, none⟩) (cell_lt x0)).trans x0, (h.cell (p := ⟨w7.heap.size, 1, none⟩) (cell_lt x1)).trans x1, (h.cell (p := ⟨w9.heap.size, 0, none⟩) (cell_lt y0)).trans y0, (h.cell (p := ⟨w9.heap.size, 1, none⟩) (cell_lt y1)).trans y1⟩)
  clear b1' b2' bx bY HG
  go_wp2_with fail
  clear hw10
  first
    | go_region_held3 (fun W' => Below w10.heap.size w10 W' ∧ W'.cell? ⟨w.heap.size, 0, none⟩ = some (.int .i64 n) ∧ W'.cell? ⟨w.heap.size, 1, none⟩ = some (.slice a' l1.length ca') ∧ W'.cell? ⟨w.heap.size + 1, 0, none⟩ = some (.int .i64 m) ∧ W'.cell? ⟨w.heap.size + 1, 1, none⟩ = some (.slice b' l2.length cb') ∧ W'.cell? ⟨w7.heap.size, 0, none⟩ = some (.int .i64 n1) ∧ W'.cell? ⟨w7.heap.size, 1, none⟩ = some (.slice x u1 cx) ∧ W'.cell? ⟨w9.heap.size, 0, none⟩ = some (.int .i64 n1) ∧ W'.cell? ⟨w9.heap.size, 1, none⟩ = some (.slice y u1 cy))
       ((refine HX.out _ ?_; first | exact HC | exact HC.drew))
       (first
        | (go_at_call 14; refine (HR1.out _ ?_).mono ?_; (first | exact HC | exact HC.drew); rintro r w' ⟨rfl, hb1⟩; have HC := (show Below w10.heap.size w10 w' from by first | exact bl HC hb1 | exact bl HC.drew hb1); obtain ⟨-, c0, c1, o0, o1, x0, x1, y0, y1⟩ := HX.out _ HC)
        | (go_at_call 29; refine (HR2.out _ ?_).mono ?_; (first | exact HC | exact HC.drew); rintro r w' ⟨rfl, hb1⟩; have HC := (show Below w10.heap.size w10 w' from by first | exact bl HC hb1 | exact bl HC.drew hb1); obtain ⟨-, c0, c1, o0, o1, x0, x1, y0, y1⟩ := HX.out _ HC)
        | (go_at_call 15; refine (HH1.out _ ?_).mono ?_; (first | exact HC | exact HC.drew); rintro r w' ⟨rfl, hb1⟩; have HC := (show Below w10.heap.size w10 w' from by first | exact bl HC hb1 | exact bl HC.drew hb1); obtain ⟨-, c0, c1, o0, o1, x0, x1, y0, y1⟩ := HX.out _ HC)
        | (go_at_call 30; refine (HH2.out _ ?_).mono ?_; (first | exact HC | exact HC.drew); rintro r w' ⟨rfl, hb1⟩; have HC := (show Below w10.heap.size w10 w' from by first | exact bl HC hb1 | exact bl HC.drew hb1); obtain ⟨-, c0, c1, o0, o1, x0, x1, y0, y1⟩ := HX.out _ HC)
        | (go_at_call 18; refine (HC1.out _ ?_).mono ?_; (first | exact HC | exact HC.drew); rintro r w' ⟨rfl, hb1⟩; have HC := (show Below w10.heap.size w10 w' from by first | exact bl HC hb1 | exact bl HC.drew hb1); obtain ⟨-, c0, c1, o0, o1, x0, x1, y0, y1⟩ := HX.out _ HC)
        | (go_at_call 31; refine (HC2.out _ ?_).mono ?_; (first | exact HC | exact HC.drew); rintro r w' ⟨rfl, hb1⟩; have HC := (show Below w10.heap.size w10 w' from by first | exact bl HC hb1 | exact bl HC.drew hb1); obtain ⟨-, c0, c1, o0, o1, x0, x1, y0, y1⟩ := HX.out _ HC)
        | (go_at_call 16; refine (HL1.out _ ?_).mono ?_; (first | exact HC | exact HC.drew); rintro r w' ⟨⟨v1, rfl, hi1⟩, hb1⟩; obtain ⟨k1, kc1, rfl⟩ := hi1.slice; have HC := (show Below w10.heap.size w10 w' from by first | exact bl HC hb1 | exact bl HC.drew hb1); obtain ⟨-, c0, c1, o0, o1, x0, x1, y0, y1⟩ := HX.out _ HC)
        | (go_at_call 33; refine (HL2.out _ ?_).mono ?_; (first | exact HC | exact HC.drew); rintro r w' ⟨⟨v2, rfl, hi2⟩, hb1⟩; obtain ⟨k2, kc2, rfl⟩ := hi2.slice; have hi1 := hi1.below hb1; have HC := (show Below w10.heap.size w10 w' from by first | exact bl HC hb1 | exact bl HC.drew hb1); obtain ⟨-, c0, c1, o0, o1, x0, x1, y0, y1⟩ := HX.out _ HC)
        | (go_at_call 32; refine (HII.out _ _ _ hi1 hi2).mono ?_; rintro r w' ⟨rfl, hb1⟩; have HC := (show Below w10.heap.size w10 w' from bl HC hb1); obtain ⟨-, c0, c1, o0, o1, x0, x1, y0, y1⟩ := HX.out _ HC)
        | (go_at_call 26; refine (HS1.out _ _ _ l2 ?_ ?_).mono ?_; (first | exact HC | exact HC.drew); exact HDd.out; rintro r w' ⟨rfl, hb1⟩; (try simp only [T3.out]); have HC := (show Below w10.heap.size w10 w' from bl HC hb1); obtain ⟨-, c0, c1, o0, o1, x0, x1, y0, y1⟩ := HX.out _ HC)
        | (go_at_call 26; refine (HS1.out _ _ _ l1 ?_ ?_).mono ?_; (first | exact HC | exact HC.drew); exact HCc.out; rintro r w' ⟨rfl, hb1⟩; (try simp only [hs3]); have HC := (show Below w10.heap.size w10 w' from bl HC hb1); obtain ⟨-, c0, c1, o0, o1, x0, x1, y0, y1⟩ := HX.out _ HC)
        | (go_at_call_of 25 (Value.agg #[.int .i64 n, .slice a' l1.length ca']); refine (HS2.out _ ?_).mono ?_; (first | exact HC | exact HC.drew); rintro r w' ⟨rfl, hb1⟩; have HC := (show Below w10.heap.size w10 w' from by first | exact bl HC hb1 | exact bl HC.drew hb1); obtain ⟨-, c0, c1, o0, o1, x0, x1, y0, y1⟩ := HX.out _ HC)
        | (go_at_call 25; refine (HS4.out _ ?_).mono ?_; (first | exact HC | exact HC.drew); rintro r w' ⟨rfl, hb1⟩; have HC := (show Below w10.heap.size w10 w' from by first | exact bl HC hb1 | exact bl HC.drew hb1); obtain ⟨-, c0, c1, o0, o1, x0, x1, y0, y1⟩ := HX.out _ HC))
    | fail "held"
  all_goals
    go_wp2
    go_ret
    exact ⟨rfl, by first | exact bl hb6 HC | exact bl hb6 HC.drew⟩
end Go.Proofs.YtlncilcoohmlkaaDoor

namespace Go.Proofs.YtlncilcoohmlkaaDoor.lawBitsTells
open Go.ChangeShapes Go.WideShapes Go.ChangeAt Go.RowKit
set_option maxRecDepth 100000 in
theorem told (H : Type) (enc : TypeId × Value → H) (W : World) (base : Nat) (args : Array Value) (ds gs : List (DataW H)) (before : List MemPlace)
    (hval : ∀ (j : Nat) t v, Tryd.f9.params[j]? = some t → args[j]? = some v → Value.okWide Tryd.prog W .any base t v)
    (hW : DataW.Whole enc Tryd.prog Tryd.f9.params.toList Rows.bitsTellsSpec.vars false W args.toList ds gs before) (hL : laidMetH Tryd.prog laidL W) :
    Calls Tryd.prog 9 args W fun e W' => ∃ v, e = .returned v ∧ Rows.bitsTellsSpec.post enc Tryd.prog Tryd.f9 false true false false W args v W' := by
  have hW' := hW
  obtain ⟨p, q, hA0, hV, rfl, hfz, hnd⟩ := hW
  have hA : DataW.TrodAll enc Tryd.prog W 0 (fun _ => true) true Tryd.f9.params.toList args.toList ds p := hA0
  rw [Tryd.params9] at hA hval
  obtain ⟨v0, vs0, d0, ds0, p0, q0, hargs, rfl, rfl, h0, r0⟩ := trodAll_cons hA
  obtain ⟨v1, vs1, d1, ds1, p1, q1, rfl, rfl, rfl, h1, r1⟩ := trodAll_cons r0
  obtain ⟨v2, vs2, d2, ds2, p2, q2, rfl, rfl, rfl, h2, r2⟩ := trodAll_cons r1
  obtain ⟨v3, vs3, d3, ds3, p3, q3, rfl, rfl, rfl, h3, r3⟩ := trodAll_cons r2
  obtain ⟨rfl, rfl, rfl⟩ := trodAll_nil r3
  obtain rfl : args = #[v0, v1, v2, v3] := by cases args; simp_all
  obtain ⟨rfl, rfl⟩ := trodVars_none hV
  have k0 := h0
  have k1 := h1
  have k2 := h2
  have k3 := h3
  obtain ⟨n0, u0, l0, rfl, i0⟩ := bits_open (hval 0 24 v0 rfl rfl) h0
  obtain ⟨n1, u1, l1, rfl, i1⟩ := bits_open (hval 1 24 v1 rfl rfl) h1
  obtain ⟨x2, rfl, rfl, rfl, wx2⟩ := open_int Tryd.underlying3 (hval 2 3 v2 rfl rfl) h2
  obtain ⟨x3, rfl, rfl, rfl, wx3⟩ := open_int Tryd.underlying3 (hval 3 3 v3 rfl rfl) h3
  clear hA0
  simp only [List.append_nil] at hW'
  obtain ⟨E, hGl⟩ := glob_of_laid hL
  refine (tells_law hGl i0 i1 x2 x3).mono fun e W' ⟨he, hb⟩ => ?_
  subst he
  have hlt := hW'.lt
  have harg0 := Below.trod laidOut (by kernel_rfl) (of_decide_eq_true (by kernel_rfl)) k0 hb (fun y hy => by first | (cases hy; done) | (simpa using hlt y (by simp [hy])))
  have harg1 := Below.trod laidOut (by kernel_rfl) (of_decide_eq_true (by kernel_rfl)) k1 hb (fun y hy => by first | (cases hy; done) | (simpa using hlt y (by simp [hy])))
  have harg2 := Below.trod laidOut (by kernel_rfl) (of_decide_eq_true (by kernel_rfl)) k2 hb (fun y hy => by first | (cases hy; done) | (simpa using hlt y (by simp [hy])))
  have harg3 := Below.trod laidOut (by kernel_rfl) (of_decide_eq_true (by kernel_rfl)) k3 hb (fun y hy => by first | (cases hy; done) | (simpa using hlt y (by simp [hy])))
  exact ⟨_, rfl, _, _, _, [], _, [], hW', trodAll_cons_mk (shut_bool Tryd.underlying4 _) trodAll_mk0, (trodAll_cons_mk harg0 (trodAll_cons_mk harg1 (trodAll_cons_mk harg2 (trodAll_cons_mk harg3 trodAll_mk0)))), rfl, hb.frame _, fun h => by cases h⟩

set_option maxRecDepth 100000 in
theorem lifted (os : Os) (started : os.Started) (H : Type) (enc : TypeId × Value → H) :
    ReturnsInHanded {} Tryd.checked os 9 .any (fun w args => (Rows.bitsTellsSpec.pre enc Tryd.prog Tryd.f9 [] false w args ∧ laidMetH Tryd.prog laidL w) ∧ sizedMet enc Tryd.prog Tryd.f9 (OpenSpec.ofChange Rows.bitsTellsSpec) false w args)
      (Rows.bitsTellsSpec.post enc Tryd.prog Tryd.f9 false true false false) := by
  refine returnsInHanded_of_change_and (C := Tryd.checked) (X := fun w _ => laidMetH Tryd.prog laidL w) (fun _ _ _ hh h => h.of_heap hh) own started (by kernel_rfl) Tryd.func9
    (ChangeSpec.witness_shaped (enc := enc) (C := Tryd.checked) (os := os) (X := fun w _ => laidMetH Tryd.prog laidL w) false (World.doorLaid Tryd.prog 66 os) #[.agg #[.int .i64 0, .slice none 0 0], .agg #[.int .i64 0, .slice none 0 0], .int .i64 0, .int .i64 0] 8 rfl (World.shaped_of_RefB (by kernel_rfl) (by kernel_rfl)) (by kernel_rfl) (by kernel_rfl) (by kernel_rfl) (door_met os _)) ?_
  intro W base args ds gs before hval hW _ _ hL _
  exact told H enc W base args ds gs before hval hW hL

theorem said : Rows.BitsTellsSaid :=
  OpenClaim.holds_of_wide 9 Tryd.f9 rfl rfl rfl rfl rfl rfl rfl ⟨rfl, rfl, rfl, rfl, rfl⟩ rfl rfl rfl rfl rfl (by kernel_rfl) Tryd.func9 (by kernel_rfl)
    (of_decide_eq_true (by kernel_rfl)) (by unfold Func.isWrapper; first | (rw [if_pos (by decide +kernel)]; kernel_rfl) | (rw [if_neg (by decide +kernel)]; exact ⟨rfl, rfl⟩))
    (fun os started H enc _ => lifted os started H enc)

theorem plain (f : FuncId) (fn : Func) (hf : Tryd.pinned.checked.prog.funcNamed "selion/selionlaw02.BitsTells" = some f) (hfn : Tryd.pinned.checked.prog.funcs[f]? = some fn) :
    true = Tryd.pinned.checked.prog.looks [] ∧ ∀ (j : Nat) t, fn.params[j]? = some t → Tryd.pinned.checked.prog.wantsStandIn t = false := by
  obtain rfl : f = 9 := Option.some.inj ((show Tryd.prog.funcNamed "selion/selionlaw02.BitsTells" = some 9 by kernel_rfl).symm.trans hf) |>.symm
  obtain rfl : fn = Tryd.f9 := (Option.some.inj (Tryd.func9.symm.trans hfn)).symm
  refine ⟨by kernel_rfl, fun j t ht => ?_⟩
  have hm : t ∈ Tryd.f9.params := Array.mem_of_getElem? ht
  rw [Tryd.params9] at hm
  have hm' : t = 24 ∨ t = 3 := by simpa using hm
  rcases hm' with rfl | rfl
  · exact (show Tryd.prog.wantsStandIn 24 = false by kernel_rfl)
  · exact (show Tryd.prog.wantsStandIn 3 = false by kernel_rfl)

/-- THE CARD. -/
theorem card : Rows.BitsTellsCardSaid :=
  Claim7.holds_tied_plain_at .later [] _ _ _ _ said (fun _ h => by cases h) (by kernel_rfl) (fun _ h => by cases h) bitsTells_row_tie rfl ⟨rfl, rfl⟩ (by kernel_rfl) rfl plain (by kernel_rfl)
end Go.Proofs.YtlncilcoohmlkaaDoor.lawBitsTells

/- BitsBack holds of all bits: the law's own text walked, and the card. -/
import Derived.Test.YtlncilcoohmlkaaDoorU10
import Derived.Test.YtlncilcoohmlkaaDoorP4
import Derived.Test.YtlncilcoohmlkaaDoorU11
import Derived.Test.YtlncilcoohmlkaaDoorBx
import Derived.Test.YtlncilcoohmlkaaDoorG2
import Derived.Test.YtlncilcoohmlkaaDoorCards
import Derived.Test.YtlncilcoohmlkaaDoorTie
import Derived.BigQuiet
import Derived.Deep.RegionHeld3
namespace Go.Proofs.YtlncilcoohmlkaaDoor
open Go.RowKit
attribute [local go_sem ↓] Go.wp_at_zero Go.wp_at_succ

theorem bl {w W W' : World} (h : Below w.heap.size w W) (h' : Below W.heap.size W W') : Below w.heap.size w W' := h.trans (h'.mono h.size)
set_option maxRecDepth 20000 in
theorem list_fresh {w : World} {N : Nat} {a : Option Addr} {cap : Nat} {ws : List Nat} (hv : WordsV w (.slice a ws.length cap) ws) (hr : rightB (N : Int) ws = true) :
    Calls Tryd.prog 16 #[.agg #[.int .i64 (N : Int), .slice a ws.length cap]] w fun r w' => (∃ aL cL, r = .returned (.slice aL (listN (N : Int) ws).length cL) ∧
      ∀ k, k < (listN (N : Int) ws).length → ∃ g, aL = some ⟨g, 0, none⟩ ∧ w.heap.size ≤ g ∧ w'.cell? ⟨g, k, none⟩ = some (.int .i64 (((listN (N : Int) ws).getD k 0 : Nat) : Int))) ∧ Below w.heap.size w w' := by
  obtain ⟨M, e, h1, h2, h3⟩ := rightB_iff hr
  obtain rfl : N = M := by omega
  have eL : listN (N : Int) ws = placesL ws N 0 true := by unfold listN; rw [hr, Int.toNat_natCast]; rfl
  rw [eL]
  refine (list_right hv hr h1 (by omega)).mono fun r w' ⟨⟨v, h1, h2⟩, h3⟩ => ⟨?_, h3⟩
  generalize placesL ws N 0 true = L at *
  rcases h2.2 with ⟨rfl, h0⟩ | ⟨g, cap, cur, rfl, hb, hg, q1, q2, q3, q4⟩
  · rw [h0]
    exact ⟨none, 0, h1, fun k hk => absurd hk (Nat.not_lt_zero k)⟩
  · refine ⟨_, _, h1, fun k hk => ⟨g, rfl, hb, cells_cell hg ?_⟩⟩
    have h5 : (cur.toList.take (L.length * 1))[k]? = Option.some (Value.int .i64 ((L.getD k 0 : Nat) : Int)) := by rw [q4]; simp [List.getD_eq_getElem?_getD, hk]
    rw [List.getElem?_take, if_pos (by omega)] at h5
    simpa using h5

set_option maxHeartbeats 4000000 in
set_option maxRecDepth 20000 in
theorem back_bits_law {E : Env2} {w : World} (hGl : Glob2 E w) {n : Int} {v : Value} {ws : List Nat} (hv : WordsV w v ws) :
    Calls Tryd.prog 8 #[.agg #[.int .i64 n, v]] w fun r w' => r = .returned (.bool true) ∧ Below w.heap.size w w' := by
  generalize hl' : ws.take 12 = l'
  have HL := Lib.hid hl'
  obtain ⟨a, ca, rfl⟩ := hv.slice
  obtain ⟨w1, hw1, e0, e1, b1⟩ := allocs1 w (.cells #[.int .i64 n, .slice a ws.length ca] 24)
  have hb := e0
  have HG := Lib.hid hGl
  replace hGl := hGl.below e0
  replace hv := hv.below e0
  have m1 := shown_any hGl
  clear hl' e0 e1
  go_enter Tryd.func8, Tryd.ntmps8
  go_wp2_with fail
  refine m1.mono ?_
  rintro r w2 ⟨rfl, hb1⟩
  replace hb := hb.trans (hb1.mono hb.size)
  replace hGl := hGl.below hb1
  replace hv := hv.below hb1
  replace b1 := (hb1.block _ (block_lt b1)).trans b1
  clear m1 hb1 hw1
  have c0 := cells_cell (i := 0) b1 (v := .int .i64 n) rfl
  have c1 := cells_cell (i := 1) b1 (v := .slice a ws.length ca) rfl
  have m1 := cut_any2 (n := n) hv
  rw [HL.out] at m1
  clear HL
  go_wp2_with fail
  refine m1.mono ?_
  rintro r w3 ⟨⟨vc, rfl, hc⟩, hb1⟩
  obtain ⟨a', ca', rfl⟩ := hc.slice
  replace hb := hb.trans (hb1.mono hb.size)
  replace b1 := (hb1.block _ (block_lt b1)).trans b1
  clear m1 hb1 hGl hv c0 c1
  obtain ⟨w4, hw4, hb4, hGl, hW, b4, -⟩ := rebox HG.out hb (Nat.le_refl _) b1 n a' l'.length ca'
  replace hc := hW _ _ hc
  have c0 := cells_cell (i := 0) b1 (v := .int .i64 n) rfl
  have c1 := cells_cell (i := 1) b1 (v := .slice a ws.length ca) rfl
  have f0 := cells_free (i := 0) b1
  have f1 := cells_free (i := 1) b1
  have d0 := cells_cell (i := 0) b4 (v := .int .i64 n) rfl
  have d1 := cells_cell (i := 1) b4 (v := .slice a' l'.length ca') rfl
  have m1 := make_any2 hGl n
  clear b1 hW hb
  go_wp2_with fail
  refine m1.mono ?_
  rintro r w5 ⟨⟨vz, rfl, hz⟩, hb2⟩
  obtain ⟨z, cz, rfl⟩ := hz.slice
  obtain ⟨w6, hw6, e0, e1, b6⟩ := allocs1 w5 (.cells #[.int .i64 (makeN n), .slice z (makeL n).length cz] 24)
  have hbb := hb2.trans (e0.mono hb2.size)
  have hCB : w.heap.size ≠ w5.heap.size := by have := block_lt b4; have := hb2.size; omega
  have hCw : w.heap.size ≤ w5.heap.size := by have := block_lt b4; have := hb2.size; omega
  replace hc := hc.below hbb
  replace hz := hz.below e0
  replace b4 := (hbb.block _ (block_lt b4)).trans b4
  replace hb4 := hb4.trans (hbb.mono hb4.size)
  replace hGl := hGl.below hbb
  clear m1 hb2 c0 c1 f0 f1 d0 d1 hw4 e0 e1 hbb
  have d0 := cells_cell (i := 0) b4 (v := .int .i64 n) rfl
  have d1 := cells_cell (i := 1) b4 (v := .slice a' l'.length ca') rfl
  have m1 := right_any2 (n := n) hc
  go_wp2_with fail
  refine m1.mono ?_
  rintro r w7 ⟨rfl, hb7⟩
  replace hc := hc.below hb7
  replace hz := hz.below hb7
  replace b4 := (hb7.block _ (block_lt b4)).trans b4
  replace b6 := (hb7.block _ (block_lt b6)).trans b6
  replace hb4 := hb4.trans (hb7.mono hb4.size)
  replace hGl := hGl.below hb7
  clear m1 hb7 d0 d1 hw6
  have d0 := cells_cell (i := 0) b4 (v := .int .i64 n) rfl
  have d1 := cells_cell (i := 1) b4 (v := .slice a' l'.length ca') rfl
  cases hr : rightB n l' with
  | false =>
    have m1 := list_any (n := n) hc
    have e : listI n l' = [] := by unfold listI; rw [hr]; rfl
    rw [e] at m1
    clear hr e b4 b6 hc hz hGl
    go_wp2_with fail
    refine m1.mono ?_
    rintro r w8 ⟨⟨v8, rfl, h8⟩, hb8⟩
    obtain ⟨a8, c8, rfl⟩ := h8.slice
    replace hb4 := hb4.trans (hb8.mono hb4.size)
    clear m1 hb8 h8 d0 d1
    go_wp2
    go_ret
    exact ⟨rfl, hb4⟩
  | true =>
    obtain ⟨N, rfl, hN2, hlN, -⟩ := rightB_iff hr
    have hback := Lib.hid (back_law hr (fun i => hc.lt i))
    have eM : makeB (N : Int) = true := by unfold makeB; rw [decide_eq_true (show (0 : Int) ≤ (N : Int) by omega), decide_eq_true (show (N : Int) ≤ 20000 by omega)]; rfl
    have eN : makeN (N : Int) = (N : Int) ∧ makeE (N : Int) = 0 ∧ makeL (N : Int) = List.replicate ((N + 31) / 32) 0 := by unfold makeN makeE makeL; rw [eM]; exact ⟨rfl, rfl, rfl⟩
    rw [eN.1, eN.2.2] at b6
    rw [eN.2.2] at hz
    rw [eN.1, eN.2.1, eN.2.2]
    have zr := zeros_right hN2
    generalize hZ : List.replicate ((N + 31) / 32) 0 = Z at *
    have hZl : Z.length = l'.length := by rw [← hZ, List.length_replicate]; exact hlN.symm
    have HM := Lib.hid (show ∀ x ∈ listN (N : Int) l', x < N from fun x hx => ((list_mem hr x).1 hx).1)
    have m1 := list_fresh hc hr
    have hLen : (listN (N : Int) l').length ≤ 20000 := by unfold listN; rw [hr]; exact Nat.le_trans (placesL_len _ _ _ _) (by simpa using hN2)
    generalize listN (N : Int) l' = L at *
    have HZ := Lib.hid hZl
    have HR := Lib.hid (show ∀ k, rightB (N : Int) (setAll Z (L.take k)) = true from fun k => right_setAll zr _ fun x hx => HM.out x (List.mem_of_mem_take hx))
    have HNN := Lib.hid (And.intro hN2 hlN)
    clear hr eM eN hZ hZl zr hN2 hlN
    go_wp2_with fail
    refine m1.mono ?_
    rintro r w8 ⟨⟨aL, cL, rfl, hat⟩, hb8⟩
    have hB8 := hb4.trans (hb8.mono hb4.size)
    have hl8 : ∀ j, j < L.length → ∃ g, aL = some ⟨g, 0, none⟩ ∧ g ≠ w5.heap.size ∧ w8.cell? ⟨g, j, none⟩ = some (.int .i64 ((L.getD j 0 : Nat) : Int)) := fun j hj => by
      obtain ⟨g, e1, e2, e3⟩ := hat j hj
      have := block_lt b6
      exact ⟨g, e1, by omega, e3⟩
    have hc8 := hc.below hb8
    have hz8 := hz.below hb8
    replace b4 := (hb8.block _ (block_lt b4)).trans b4
    replace b6 := (hb8.block _ (block_lt b6)).trans b6
    rw [HZ.out] at b6 hz8
    clear m1 hb8 hat hc hz hGl hb4 d0 d1
    have HL8 := Lib.hid hl8
    have HC8 := Lib.hid hc8
    have HZ8 := Lib.hid hz8
    have HB4 := Lib.hid b4
    have HB6 := Lib.hid b6
    have HCB := Lib.hid hCB
    clear hl8 hc8 hz8 b4 b6 hCB
    go_wp2
    go_loopw [7] (fun i W => ∃ k : Nat, k ≤ L.length ∧ i = .int .i64 k ∧ Below w.heap.size w W ∧
      (∃ s cs, W.heap[w5.heap.size]? = some (.cells #[.int .i64 (N : Int), .slice s l'.length cs] 24 (0, 0)) ∧ WordsV W (.slice s l'.length cs) (setAll Z (L.take k))) ∧
      W.heap[w.heap.size]? = some (.cells #[.int .i64 (N : Int), .slice a' l'.length ca'] 24 (0, 0)) ∧ WordsV W (.slice a' l'.length ca') l' ∧
      ∀ j, j < L.length → ∃ g, aL = some ⟨g, 0, none⟩ ∧ g ≠ w5.heap.size ∧ W.cell? ⟨g, j, none⟩ = some (.int .i64 ((L.getD j 0 : Nat) : Int))) (fun i _ => L.length - (intOf i).toNat)
    case atStart => exact ⟨0, Nat.zero_le _, rfl, hB8, ⟨_, _, HB6.out, HZ8.out⟩, HB4.out, HC8.out, HL8.out⟩
    case round =>
      obtain ⟨k, hk, rfl, hB, ⟨s, cs, b6, hs⟩, b4, hc, hl⟩ := hrel
      clear HL8 HC8 HZ8 HB4 HB6 hB8
      have hGl := HG.out.below hB
      by_cases hlt : k < L.length
      · have HL := Lib.hid hl
        obtain ⟨g, rfl, hgC, c1⟩ := hl k hlt
        have hx : L.getD k 0 < N := HM.out _ (by simp [List.getD, hlt])
        have hr := HR.out k
        have e2 := Lib.hid (setAll_succ Z L k hlt)
        generalize L.getD k 0 = x at *
        generalize hu : setAll Z (L.take k) = us at *
        have q : decide ((0 : Int) ≤ (x : Int)) = true ∧ decide ((x : Int) < (N : Int)) = true := ⟨decide_eq_true (by omega), decide_eq_true (by omega)⟩
        have q1 : setN (N : Int) us (x : Int) = (N : Int) ∧ setE (N : Int) us (x : Int) = 0 ∧ setL (N : Int) us (x : Int) true = setW us x true := by unfold setN setE setL; rw [hr, q.1, q.2]; exact ⟨rfl, rfl, rfl⟩
        have m1 := fun W (h : Below wr.heap.size wr W) => set_any (hGl.below h) (n := (N : Int)) (hs.below h) (x : Int) true
        simp only [q1.1, q1.2.1, q1.2.2] at m1
        have hul : us.length = l'.length := by rw [← hu, setAll_len]; exact HZ.out
        have HUL := Lib.hid hul
        clear q q1 hu hul hr hl
        have x0 := cells_cell (i := 0) b6 (v := .int .i64 (N : Int)) rfl
        have x1 := cells_cell (i := 1) b6 (v := .slice s l'.length cs) rfl
        have i1 : (0 : Int) ≤ (k : Int) := by omega
        have i2 : (k : Int) < (L.length : Int) := by omega
        have HS := Lib.hid m1
        have HX := Lib.hid (show ∀ W, Below wr.heap.size wr W → W.cell? ⟨w5.heap.size, 0, none⟩ = some (.int .i64 (N : Int)) ∧ W.cell? ⟨w5.heap.size, 1, none⟩ = some (.slice s l'.length cs) ∧ W.cell? ⟨g, k, none⟩ = some (.int .i64 (x : Int)) from
          fun W h => ⟨(h.cell (p := ⟨w5.heap.size, 0, none⟩) (cell_lt x0)).trans x0, (h.cell (p := ⟨w5.heap.size, 1, none⟩) (cell_lt x1)).trans x1, (h.cell (p := ⟨g, k, none⟩) (cell_lt c1)).trans c1⟩)
        have HX2 := Lib.hid (show ∀ W, Below wr.heap.size wr W → Below wr.heap.size wr W ∧ W.cell? ⟨w5.heap.size, 0, none⟩ = some (.int .i64 (N : Int)) ∧ W.cell? ⟨w5.heap.size, 1, none⟩ = some (.slice s l'.length cs) ∧ W.cell? ⟨g, k, none⟩ = some (.int .i64 (x : Int)) from fun W h => ⟨h, HX.out W h⟩)
        have HC : Below wr.heap.size wr wr := Below.refl _ _
        clear m1
        go_wp2_with fail
        go_region_held3 (fun W' => Below wr.heap.size wr W' ∧ W'.cell? ⟨w5.heap.size, 0, none⟩ = some (.int .i64 (N : Int)) ∧ W'.cell? ⟨w5.heap.size, 1, none⟩ = some (.slice s l'.length cs) ∧ W'.cell? ⟨g, k, none⟩ = some (.int .i64 (x : Int)))
             ((refine HX2.out _ ?_; repeat (first | exact HC | exact HC.size | exact Nat.le_refl _ | refine Below.setCell ?_ ?_ _ | refine Below.alloc ?_ ?_ _ | refine Below.drew ?_)))
             (first
              | (go_at_call 13; refine (HS.out _ ?_).mono ?_; (first | exact HC | exact HC.drew); rintro r w' ⟨⟨v', rfl, hv'⟩, hb1⟩; obtain ⟨s2, cs2, rfl⟩ := hv'.slice; have HC := (show Below wr.heap.size wr w' from by first | exact bl HC hb1 | exact bl HC.drew hb1); obtain ⟨x0, x1, c1⟩ := HX.out _ HC)
              | (go_at_call 13; refine (HS.out _ ?_).mono ?_; (repeat (first | exact HC | exact HC.size | exact Nat.le_refl _ | refine Below.alloc ?_ ?_ _ | refine Below.drew ?_)); rintro r w' ⟨⟨v', rfl, hv'⟩, hb1⟩; obtain ⟨s2, cs2, rfl⟩ := hv'.slice
                 have bX := (hb1.block wr.heap.size (by simp)).trans (World.alloc_heap_new wr _)
                 have z0 := cells_cell (i := 0) bX (v := .int .i64 0) rfl
                 have z1 := cells_cell (i := 1) bX (v := .slice none 0 0) rfl
                 have y0 := cells_free (i := 0) bX
                 have y1 := cells_free (i := 1) bX
                 have HC := (show Below wr.heap.size wr w' from by refine bl ?_ hb1; repeat (first | exact HC | exact HC.size | exact Nat.le_refl _ | refine Below.alloc ?_ ?_ _ | refine Below.drew ?_)); obtain ⟨x0, x1, c1⟩ := HX.out _ HC))
        all_goals
          have hlen := (setW_len us x true).trans HUL.out
          simp only [hlen] at hv' ⊢
          clear hlen
          first
            | (obtain ⟨W3, hW3, -, -, hWW, bD, -⟩ := rebox HG.out (hB.trans (HC.mono hB.size)) hB.size bX (N : Int) s2 l'.length cs2
               have hB3 : Below wr.heap.size wr W3 := hW3 ▸ ((HC.setCell (p := ⟨wr.heap.size, 0, none⟩) (Nat.le_refl _) (.int .i64 (N : Int))).setCell (p := ⟨wr.heap.size, 1, none⟩) (Nat.le_refl _) (.slice s2 l'.length cs2))
               have hv3 := hWW _ _ hv'
               clear hWW bX z0 z1 y0 y1)
            | (obtain ⟨W3, hW3, e0, -, bD⟩ := allocs1 w' (.cells #[.int .i64 (N : Int), .slice s2 l'.length cs2] 24)
               have hB3 := HC.trans (e0.mono HC.size)
               have hv3 := hv'.below e0
               clear e0)
          rw [hW3]
          clear hW3 hv' hb1 x0 x1 c1 HS
          have b6 := (hB3.block _ (block_lt b6)).trans b6
          have b4 := (hB3.block _ (block_lt b4)).trans b4
          have hc := hc.below hB3
          have d0 := cells_cell (i := 0) bD (v := .int .i64 (N : Int)) rfl
          have d1 := cells_cell (i := 1) bD (v := .slice s2 l'.length cs2) rfl
          have x0 := cells_cell (i := 0) b6 (v := .int .i64 (N : Int)) rfl
          have x1 := cells_cell (i := 1) b6 (v := .slice s l'.length cs) rfl
          have f0 := cells_free (i := 0) b6
          have f1 := cells_free (i := 1) b6
          obtain ⟨W4, hW4, hB4, -, hWW, b6', hk4⟩ := rebox HG.out (hB.trans (hB3.mono hB.size)) hCw b6 (N : Int) s2 l'.length cs2
          have hv4 := hWW _ _ hv3
          have hc4 := hWW _ _ hc
          have b4' := (hk4 _ HCB.out).trans b4
          have HL4 := Lib.hid (show ∀ j, j < L.length → ∃ g', some (⟨g, 0, none⟩ : Addr) = some ⟨g', 0, none⟩ ∧ g' ≠ w5.heap.size ∧ W4.cell? ⟨g', j, none⟩ = some (.int .i64 ((L.getD j 0 : Nat) : Int)) from fun j hj => by
            obtain ⟨g', e1, e3, e4⟩ := HL.out j hj
            refine ⟨g', e1, e3, ?_⟩
            have e5 : W4.cell? ⟨g', j, none⟩ = W3.cell? ⟨g', j, none⟩ := by unfold World.cell?; rw [hk4 g' e3]
            exact e5.trans ((hB3.cell (p := ⟨g', j, none⟩) (cell_lt e4)).trans e4))
          clear hWW hk4 hv3 hc b4 b6 HL
          have iw : IntKind.i64.wrap ((k : Int) + 1) = (k : Int) + 1 := IntWalk.i64_in _ (by omega)
          go_wp2
          go_round
          case rel => exact ⟨k + 1, by omega, by go_num, by first | exact hB4 | exact hB4.drew, ⟨s2, cs2, b6', by rw [e2.out]; exact hv4⟩, b4', hc4, HL4.out⟩
          case measure => simp [intOf]; omega
      · obtain rfl : k = L.length := by omega
        rw [List.take_length, ← hback.out] at hs
        have m1 := same_any2 (n := (N : Int)) (m := (N : Int)) hc hs
        have es : sameB (N : Int) l' (N : Int) l' = true := by unfold sameB; simp
        rw [es] at m1
        have c0 := cells_cell (i := 0) b4 (v := .int .i64 (N : Int)) rfl
        have c1 := cells_cell (i := 1) b4 (v := .slice a' l'.length ca') rfl
        have d0 := cells_cell (i := 0) b6 (v := .int .i64 (N : Int)) rfl
        have d1 := cells_cell (i := 1) b6 (v := .slice s l'.length cs) rfl
        clear es b4 b6 hc hs hl
        go_wp2_with fail
        refine m1.mono ?_
        rintro r w9 ⟨rfl, hb9⟩
        have hB9 := hB.trans (hb9.mono hB.size)
        clear m1 hb9
        go_wp2
        go_ret
        exact ⟨rfl, by first | exact hB9 | exact hB9.drew⟩
end Go.Proofs.YtlncilcoohmlkaaDoor

namespace Go.Proofs.YtlncilcoohmlkaaDoor.lawBitsBack
open Go.ChangeShapes Go.WideShapes Go.ChangeAt Go.RowKit
set_option maxRecDepth 100000 in
theorem told (H : Type) (enc : TypeId × Value → H) (W : World) (base : Nat) (args : Array Value) (ds gs : List (DataW H)) (before : List MemPlace)
    (hval : ∀ (j : Nat) t v, Tryd.f8.params[j]? = some t → args[j]? = some v → Value.okWide Tryd.prog W .any base t v)
    (hW : DataW.Whole enc Tryd.prog Tryd.f8.params.toList Rows.bitsBackSpec.vars false W args.toList ds gs before) (hL : laidMetH Tryd.prog laidL W) :
    Calls Tryd.prog 8 args W fun e W' => ∃ v, e = .returned v ∧ Rows.bitsBackSpec.post enc Tryd.prog Tryd.f8 false true false false W args v W' := by
  have hW' := hW
  obtain ⟨p, q, hA0, hV, rfl, hfz, hnd⟩ := hW
  have hA : DataW.TrodAll enc Tryd.prog W 0 (fun _ => true) true Tryd.f8.params.toList args.toList ds p := hA0
  rw [Tryd.params8] at hA hval
  obtain ⟨v0, vs0, d0, ds0, p0, q0, hargs, rfl, rfl, h0, r0⟩ := trodAll_cons hA
  obtain ⟨rfl, rfl, rfl⟩ := trodAll_nil r0
  obtain rfl : args = #[v0] := by cases args; simp_all
  obtain ⟨rfl, rfl⟩ := trodVars_none hV
  have k0 := h0
  obtain ⟨n0, u0, l0, rfl, i0⟩ := bits_open (hval 0 24 v0 rfl rfl) h0
  clear hA0
  simp only [List.append_nil] at hW'
  obtain ⟨E, hGl⟩ := glob_of_laid hL
  refine (back_bits_law hGl i0).mono fun e W' ⟨he, hb⟩ => ?_
  subst he
  have hlt := hW'.lt
  have harg0 := Below.trod laidOut (by kernel_rfl) (of_decide_eq_true (by kernel_rfl)) k0 hb (fun y hy => by first | (cases hy; done) | (simpa using hlt y (by simp [hy])))
  exact ⟨_, rfl, _, _, _, [], _, [], hW', trodAll_cons_mk (shut_bool Tryd.underlying4 _) trodAll_mk0, (trodAll_cons_mk harg0 trodAll_mk0), rfl, hb.frame _, fun h => by cases h⟩

set_option maxRecDepth 100000 in
theorem lifted (os : Os) (started : os.Started) (H : Type) (enc : TypeId × Value → H) :
    ReturnsInHanded {} Tryd.checked os 8 .any (fun w args => (Rows.bitsBackSpec.pre enc Tryd.prog Tryd.f8 [] false w args ∧ laidMetH Tryd.prog laidL w) ∧ sizedMet enc Tryd.prog Tryd.f8 (OpenSpec.ofChange Rows.bitsBackSpec) false w args)
      (Rows.bitsBackSpec.post enc Tryd.prog Tryd.f8 false true false false) := by
  refine returnsInHanded_of_change_and (C := Tryd.checked) (X := fun w _ => laidMetH Tryd.prog laidL w) (fun _ _ _ hh h => h.of_heap hh) own started (by kernel_rfl) Tryd.func8
    (ChangeSpec.witness_shaped (enc := enc) (C := Tryd.checked) (os := os) (X := fun w _ => laidMetH Tryd.prog laidL w) false (World.doorLaid Tryd.prog 66 os) #[.agg #[.int .i64 0, .slice none 0 0]] 8 rfl (World.shaped_of_RefB (by kernel_rfl) (by kernel_rfl)) (by kernel_rfl) (by kernel_rfl) (by kernel_rfl) (door_met os _)) ?_
  intro W base args ds gs before hval hW _ _ hL _
  exact told H enc W base args ds gs before hval hW hL

theorem said : Rows.BitsBackSaid :=
  OpenClaim.holds_of_wide 8 Tryd.f8 rfl rfl rfl rfl rfl rfl rfl ⟨rfl, rfl, rfl, rfl, rfl⟩ rfl rfl rfl rfl rfl (by kernel_rfl) Tryd.func8 (by kernel_rfl)
    (of_decide_eq_true (by kernel_rfl)) (by unfold Func.isWrapper; first | (rw [if_pos (by decide +kernel)]; kernel_rfl) | (rw [if_neg (by decide +kernel)]; exact ⟨rfl, rfl⟩))
    (fun os started H enc _ => lifted os started H enc)

theorem plain (f : FuncId) (fn : Func) (hf : Tryd.pinned.checked.prog.funcNamed "selion/selionlaw02.BitsBack" = some f) (hfn : Tryd.pinned.checked.prog.funcs[f]? = some fn) :
    true = Tryd.pinned.checked.prog.looks [] ∧ ∀ (j : Nat) t, fn.params[j]? = some t → Tryd.pinned.checked.prog.wantsStandIn t = false := by
  obtain rfl : f = 8 := Option.some.inj ((show Tryd.prog.funcNamed "selion/selionlaw02.BitsBack" = some 8 by kernel_rfl).symm.trans hf) |>.symm
  obtain rfl : fn = Tryd.f8 := (Option.some.inj (Tryd.func8.symm.trans hfn)).symm
  refine ⟨by kernel_rfl, fun j t ht => ?_⟩
  have hm : t ∈ Tryd.f8.params := Array.mem_of_getElem? ht
  rw [Tryd.params8] at hm
  have hm' : t = 24 := by simpa using hm
  subst hm'
  exact (show Tryd.prog.wantsStandIn 24 = false by kernel_rfl)

/-- THE CARD. -/
theorem card : Rows.BitsBackCardSaid :=
  Claim7.holds_tied_plain_at .later [] _ _ _ _ said (fun _ h => by cases h) (by kernel_rfl) (fun _ h => by cases h) bitsBack_row_tie rfl ⟨rfl, rfl⟩ (by kernel_rfl) rfl plain (by kernel_rfl)
end Go.Proofs.YtlncilcoohmlkaaDoor.lawBitsBack

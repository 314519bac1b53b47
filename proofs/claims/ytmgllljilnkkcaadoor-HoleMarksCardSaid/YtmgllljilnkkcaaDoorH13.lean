/- Layer hole: the first hole that is long enough: Fits. -/
import Derived.Test.YtmgllljilnkkcaaDoorH12
import Derived.RangeFuncCalls
namespace Go.Proofs.YtmgllljilnkkcaaDoor
open Go Go.RowKit Go.Shelf
attribute [local go_sem ↓] Go.wp_at_zero Go.wp_at_succ
attribute [local go_sem] Oper.semAt_some

theorem fits1_any {w : World} {N : Nat} {n : Int} (x1 x2 : Int) (hN : w.cell? ⟨N, 0, none⟩ = some (.int .i64 n)) :
    Calls Tryd.prog 23 #[.agg #[.int .i64 x1, .int .i64 x2], .pointer (some ⟨N, 0, none⟩)] w fun r w' => r = .returned (.bool (decide (1 ≤ n))) ∧ Below w.heap.size w w' := by
  have hlt := cell_lt hN
  go_enter Tryd.func23, Tryd.ntmps23
  go_wp2
  go_ret
  exact ⟨rfl, by first | exact (Below.refl _ _).alloc (Nat.le_refl _) _ | exact ((Below.refl _ _).alloc (Nat.le_refl _) _).drew⟩
theorem fits2_any {w : World} {N : Nat} {n : Int} (x1 x2 : Nat) (h1 : x1 < x2) (h2 : x2 < 33) (hN : w.cell? ⟨N, 0, none⟩ = some (.int .i64 n)) :
    Calls Tryd.prog 24 #[.agg #[.int .i64 (x1 : Int), .int .i64 (x2 : Int)], .pointer (some ⟨N, 0, none⟩)] w fun r w' => r = .returned (.bool (decide (n ≤ (x2 : Int) - x1))) ∧ Below w.heap.size w w' := by
  have hlt := cell_lt hN
  go_enter Tryd.func24, Tryd.ntmps24
  go_wp2
  go_ret
  exact ⟨rfl, by first | exact (Below.refl _ _).alloc (Nat.le_refl _) _ | exact ((Below.refl _ _).alloc (Nat.le_refl _) _).drew⟩

def longB (n : Int) (h : Nat × Nat) : Bool := decide (1 ≤ n) && decide (n ≤ (h.2 : Int) - h.1)

set_option maxHeartbeats 1000000 in
set_option maxRecDepth 20000 in
theorem first_fits {w : World} {B A N : Nat} {x n : Int} {xs : List (Nat × Nat)} (hG : GivesFrom w B x xs) (hxb : ∀ h ∈ xs, h.1 < h.2 ∧ h.2 < 33)
    (hA : w.heap[A]? = some (.cells #[.func (.func 23) #[] #[.pointer (some ⟨N, 0, none⟩)], .func (.func 24) #[] #[.pointer (some ⟨N, 0, none⟩)]] 63 (0, 0))) (hN : w.cell? ⟨N, 0, none⟩ = some (.int .i64 n)) :
    Calls Tryd.prog 21 #[.pointer (some ⟨B, 0, none⟩), .int .i64 x, .slice (some ⟨A, 0, none⟩) 2 2] w fun r w' => r = .returned (optV (xs.find? (longB n))) ∧ Below w.heap.size w w' := by
  obtain ⟨WA, hWA, a0, a1, a2, a3⟩ := allocs2 w (.cells #[.slice (some ⟨A, 0, none⟩) 2 2] 73) (.cells #[.int .i64 0, .int .i64 0] 29)
  obtain ⟨WB, hWB, b0, b1, b2, b3⟩ := allocs2 WA (.cells #[.bool false] 4) (.cells #[.int .i64 0, .int .i64 0] 29)
  obtain ⟨W0, hW0, f0, f1, f3, f4⟩ := allocs2 WB (.cells #[.pointer (some ⟨B, 0, none⟩)] 53) (.cells #[.int .i64 x] 3)
  have hHo := holes_any B x WB
  have g3 := cells_cell (i := 0) f3 (v := .pointer (some ⟨B, 0, none⟩)) rfl
  have g4 := cells_cell (i := 0) f4 (v := .int .i64 x) rfl
  have c0 : Below w.heap.size w W0 := (a0.trans (b0.mono a0.size)).trans (f0.mono (by have := a0.size; have := b0.size; omega))
  have hg := hG W0 _ _ (fun j => j < W0.heap.size ∧ WB.heap.size ≤ j) c0 g3 g4
  have e3 : WB.heap.size = w.heap.size + 4 := by omega
  rw [show WA.heap.size = w.heap.size + 1 + 1 by omega] at b2 b3
  have d6 : W0.heap[w.heap.size + 1]? = some (.cells #[.int .i64 0, .int .i64 0] 29 (0, 0)) := (f0.block _ (by omega)).trans ((b0.block _ (by omega)).trans a3)
  have d7 : W0.heap[w.heap.size + 1 + 1]? = some (.cells #[.bool false] 4 (0, 0)) := (f0.block _ (by omega)).trans b2
  have d8 : W0.heap[w.heap.size + 1 + 1 + 1]? = some (.cells #[.int .i64 0, .int .i64 0] 29 (0, 0)) := (f0.block _ (by omega)).trans b3
  have d5 : W0.heap[w.heap.size]? = some (.cells #[.slice (some ⟨A, 0, none⟩) 2 2] 73 (0, 0)) := (f0.block _ (by omega)).trans ((b0.block _ (by omega)).trans a2)
  have hWBs : w.heap.size + 4 ≤ WB.heap.size := by omega
  have hW0s : WB.heap.size ≤ W0.heap.size := by omega
  have HA := Lib.hid hWA
  have HB := Lib.hid hWB
  clear hWA hWB a0 a1 a2 a3 b0 b1 b2 b3 g3 g4 f3 f4 f0 f1 e3
  refine calls_of_wp_marks Tryd.func21 rfl ?_
  simp only [Tryd.ntmps21, List.size_toArray, List.length_cons, List.length_nil, Nat.reduceAdd, Nat.reduceSub, Array.replicate_succ, Array.replicate_zero, List.push_toArray, List.append_toArray, List.nil_append, List.cons_append]
  go_wp2_with fail
  rw [HA.out, HB.out]
  refine hHo.mono ?_
  rintro r W0' ⟨rfl, hw⟩
  rw [hW0] at hw
  subst hw
  clear hHo hW0 HA HB
  go_wp2_with fail
  refine rf_wp (gf := 31) (lb := #[.pointer (some ⟨WB.heap.size, 0, none⟩), .pointer (some ⟨WB.heap.size + 1, 0, none⟩)]) rfl (enters_of Tryd.func31 (by kernel_rfl) rfl) ?_
  intro D L W2 hD hRf hB2 hsz hK hL
  have hKp : ∀ k, (k < WB.heap.size ∨ k = D ∨ k = D + 1) → k < W2.heap.size := by intro k hk; have := hB2.size; omega
  have h0 : KeepF w W2 w.heap.size (fun k => k < WB.heap.size ∨ k = D ∨ k = D + 1) (fun j => j < W0.heap.size ∧ WB.heap.size ≤ j) W2 :=
    ⟨c0.trans (hB2.mono c0.size), by omega, Nat.le_refl _, hKp, fun _ _ => rfl, fun j hj => ⟨by omega, by omega⟩⟩
  have hD0 : WB.heap.size ≤ D := by omega
  have d5' := (hB2.block _ (by omega)).trans d5
  have d6' := (hB2.block _ (by omega)).trans d6
  have d7' := (hB2.block _ (by omega)).trans d7
  have d8' := (hB2.block _ (by omega)).trans d8
  have hle0 : w.heap.size ≤ W0.heap.size := by omega
  clear d5 d6 d7 d8 hD hsz c0 hG hKp
  refine (hg (D + 1) (fun pre F W => pre.find? (longB n) = none ∧ KeepF w W2 w.heap.size (fun k => k < WB.heap.size ∨ k = D ∨ k = D + 1) F W) (StopE w w.heap.size (w.heap.size + 1) (w.heap.size + 1 + 1) D L (xs.find? (longB n))) W2 hB2 ⟨rfl, h0⟩
    (fun _ _ _ _ h hb => ⟨h.1, h.2.next hb⟩) (fun _ _ _ b i u h hF hle' => ⟨h.1, h.2.set b i u hF (by omega)⟩) (fun _ _ _ _ h hs => ⟨h.1, h.2.sub hs⟩) (fun _ _ h hb => h.next hb) ?_).mono ?_
  · intro pre x post F W hxs ⟨hpre, hC⟩
    have hfx : xs.find? (longB n) = (bif longB n x then some x else post.find? (longB n)) := by
      rw [hxs, List.find?_append, hpre, Option.none_or, List.find?_cons]
      cases longB n x <;> rfl
    have hpx : longB n x = false → (pre ++ [x]).find? (longB n) = none := fun hl => by rw [List.find?_append, hpre, Option.none_or, List.find?_cons, hl]; rfl
    obtain ⟨hx1, hx2⟩ := hxb x (by rw [hxs]; simp)
    clear hxs hg h0 hpre
    obtain ⟨x1, x2⟩ := x
    simp only at hx1 hx2
    change YieldAt Fence.wide 8 _ _ #[.agg #[.int .i64 (x1 : Int), .int .i64 (x2 : Int)]] W _
    have hsame := hC.same
    have hsl := (hsame (D + 1) (.inr (.inr rfl))).trans hL
    have hsm := (hsame D (.inr (.inl rfl))).trans hK
    have s5 := (hsame w.heap.size (.inl (by omega))).trans d5'
    have s6 := (hsame (w.heap.size + 1) (.inl (by omega))).trans d6'
    have s7 := (hsame (w.heap.size + 1 + 1) (.inl (by omega))).trans d7'
    have sA := (hC.below.block _ (block_lt hA)).trans hA
    have sN := (hC.below.cell (p := ⟨N, 0, none⟩) (cell_lt hN)).trans hN
    clear hsame
    refine hRf.round _ _ _ rfl hsl ?_
    obtain ⟨V0, hV0, u0, u1, u2⟩ := allocs1 W (.cells #[.int .i64 (x1 : Int), .int .i64 (x2 : Int)] 29)
    gi_wp2
    have hC0 := (hC.next u0).sub (F' := F) (fun j hj => .inl hj)
    have v5 := (u0.block _ (block_lt s5)).trans s5
    have v6 := (u0.block _ (block_lt s6)).trans s6
    have v7 := (u0.block _ (block_lt s7)).trans s7
    have vA := (u0.block _ (block_lt sA)).trans sA
    have vN := (u0.cell (p := ⟨N, 0, none⟩) (cell_lt sN)).trans sN
    have vl := (u0.block _ (block_lt hsl)).trans hsl
    have vm := (u0.block _ (block_lt hsm)).trans hsm
    have hW1 := hC.size
    have hlt2 := block_lt hsl
    refine ⟨vl, ?_⟩
    have hAlt := block_lt hA
    have hNlt : N < w.heap.size := cell_lt hN
    have hb1 : Below w.heap.size w (V0.putObj (D + 1) (L .busy none)) := below_putObj hC0.below _ vl (by omega)
    have hz1 : (V0.putObj (D + 1) (L .busy none)).heap.size = V0.heap.size := putObj_size _ _ _
    have w5 := (World.putObj_heap_other (o := L .busy none) (show w.heap.size ≠ D + 1 by omega)).trans v5
    have w6 := (World.putObj_heap_other (o := L .busy none) (show w.heap.size + 1 ≠ D + 1 by omega)).trans v6
    have w7 := (World.putObj_heap_other (o := L .busy none) (show w.heap.size + 1 + 1 ≠ D + 1 by omega)).trans v7
    have wA := (World.putObj_heap_other (o := L .busy none) (show A ≠ D + 1 by omega)).trans vA
    have wN : (V0.putObj (D + 1) (L .busy none)).cell? ⟨N, 0, none⟩ = some (.int .i64 n) := by
      have := World.putObj_heap_other (w := V0) (o := L .busy none) (show N ≠ D + 1 by omega)
      unfold World.cell? at vN ⊢
      rw [this]
      exact vN
    have wm := (World.putObj_heap_other (o := L .busy none) (show D ≠ D + 1 by omega)).trans vm
    have wl : (V0.putObj (D + 1) (L .busy none)).heap[D + 1]? = some (L .busy none) := World.putObj_heap_same (block_lt vl)
    have wh := (World.putObj_heap_other (o := L .busy none) (show W.heap.size ≠ D + 1 by omega)).trans u2
    have hz2 : w.heap.size + 4 ≤ V0.heap.size := by have := hC0.size; omega
    have hturn : ∀ V, Below (V0.putObj (D + 1) (L .busy none)).heap.size (V0.putObj (D + 1) (L .busy none)) V → Below W.heap.size W (V.putObj (D + 1) (L .ready none)) := fun V hV => u0.trans ((below_turn (L .busy none) vl hV).mono u0.size)
    generalize V0.putObj (D + 1) (L .busy none) = V2 at *
    have m0 := cells_cell (i := 0) wh (v := .int .i64 (x1 : Int)) rfl
    have m1 := cells_cell (i := 1) wh (v := .int .i64 (x2 : Int)) rfl
    have n0 := cells_cell (i := 0) w5 (v := .slice (some ⟨A, 0, none⟩) 2 2) rfl
    have A0 := cells_cell (i := 0) wA (v := .func (.func 23) #[] #[.pointer (some ⟨N, 0, none⟩)]) rfl
    have A1 := cells_cell (i := 1) wA (v := .func (.func 24) #[] #[.pointer (some ⟨N, 0, none⟩)]) rfl
    have p0 := cells_cell (i := 0) w6 (v := .int .i64 0) rfl
    have p1 := cells_cell (i := 1) w6 (v := .int .i64 0) rfl
    have p2 := cells_free (i := 0) w6
    have p3 := cells_free (i := 1) w6
    have q0 := cells_cell (i := 0) w7 (v := .bool false) rfl
    have q1 := cells_free (i := 0) w7
    have C1 := fits1_any (x1 : Int) (x2 : Int) wN
    have T := Lib.hid hturn
    have HC := Lib.hid hC
    have PX := Lib.hid hpx
    clear hV0 u0 u1 u2 v5 v6 v7 vl vm vA vN s5 s6 s7 sA sN hsl hsm hz1 hz2 hC0 hC d5' d6' d7' d8' hK hL hturn hpx
    by_cases hn1 : 1 ≤ n
    · by_cases hn2 : n ≤ (x2 : Int) - x1
      · rw [decide_eq_true hn1] at C1
        gi_wp2
        refine wpIn_scope_ahead 0 rfl ?_
        gi_wp2
        refine wpIn_loop_rounds 3 ?_
        rw [roundsIn_succ]
        gi_wp2_with fail
        refine ⟨trivial, (CallsIn.inRound _ (callsIn_wide.2 C1)).mono ?_⟩
        rintro r V3 ⟨rfl, hb3⟩
        have C2 := fits2_any x1 x2 hx1 hx2 ((hb3.cell (p := ⟨N, 0, none⟩) (cell_lt wN)).trans wN)
        rw [decide_eq_true hn2] at C2
        have A1' := (hb3.cell (p := ⟨A, 1, none⟩) (cell_lt A1)).trans A1
        have wh' := (hb3.block _ (block_lt wh)).trans wh
        have m0' := cells_cell (i := 0) wh' (v := .int .i64 (x1 : Int)) rfl
        have m1' := cells_cell (i := 1) wh' (v := .int .i64 (x2 : Int)) rfl
        have T2 : Hid (∀ V, Below V3.heap.size V3 V → Below W.heap.size W (V.putObj (D + 1) (L .ready none)) ∧ Below V2.heap.size V2 V) := Lib.hid fun V hV => ⟨T.out V (hb3.trans (hV.mono hb3.size)), hb3.trans (hV.mono hb3.size)⟩
        clear C1 A0 A1 m0 m1 n0 p0 p1 p2 p3 q0 q1 T hb3
        gi_wp2
        rw [roundsIn_succ]
        gi_wp2_with fail
        refine ⟨trivial, (CallsIn.inRound _ (callsIn_wide.2 C2)).mono ?_⟩
        rintro r V4 ⟨rfl, hb4⟩
        obtain ⟨t4, b4⟩ := T2.out V4 hb4
        have wl4 := (b4.block _ (block_lt wl)).trans wl
        have w6' := (b4.block _ (block_lt w6)).trans w6
        have w7' := (b4.block _ (block_lt w7)).trans w7
        have wm' := (b4.block _ (block_lt wm)).trans wm
        have wh4 := (hb4.block _ (block_lt wh')).trans wh'
        have m0 := cells_cell (i := 0) wh4 (v := .int .i64 (x1 : Int)) rfl
        have m1 := cells_cell (i := 1) wh4 (v := .int .i64 (x2 : Int)) rfl
        have p0 := cells_cell (i := 0) w6' (v := .int .i64 0) rfl
        have p1 := cells_cell (i := 1) w6' (v := .int .i64 0) rfl
        have p2 := cells_free (i := 0) w6'
        have p3 := cells_free (i := 1) w6'
        have q0 := cells_cell (i := 0) w7' (v := .bool false) rfl
        have q1 := cells_free (i := 0) w7'
        have hs := stopE_set (x1 := x1) (x2 := x2) w6' w7' wm' wl4 (hb1.trans (b4.mono (by have := hb1.size; omega))) (by omega) (by omega) (by omega)
        have hl : longB n (x1, x2) = true := by unfold longB; rw [decide_eq_true (show 1 ≤ n by omega)]; simp only [Bool.true_and]; exact decide_eq_true hn2
        rw [hl] at hfx
        have hfx' : xs.find? (longB n) = some (x1, x2) := hfx
        rw [← hfx'] at hs
        have HS := Lib.hid hs
        clear C2 T2 t4 b4 hb4 wl4 w6' w7' wm' wh4 wh' m0' m1' A1' w5 w6 w7 wA wN wm wh wl hb1 hs hfx hfx' hl hn1 hn2 hN hA hxb hx1 hx2 PX HC hB2
        gi_wp2
        rw [roundsIn_succ]
        gi_wp2
        exact ⟨HS.out.1, .inr ⟨rfl, HS.out.2⟩⟩
      · rw [decide_eq_true hn1] at C1
        gi_wp2
        refine wpIn_scope_ahead 0 rfl ?_
        gi_wp2
        refine wpIn_loop_rounds 3 ?_
        rw [roundsIn_succ]
        gi_wp2_with fail
        refine ⟨trivial, (CallsIn.inRound _ (callsIn_wide.2 C1)).mono ?_⟩
        rintro r V3 ⟨rfl, hb3⟩
        have C2 := fits2_any x1 x2 hx1 hx2 ((hb3.cell (p := ⟨N, 0, none⟩) (cell_lt wN)).trans wN)
        rw [decide_eq_false (show ¬ n ≤ (x2 : Int) - x1 by omega)] at C2
        have A1' := (hb3.cell (p := ⟨A, 1, none⟩) (cell_lt A1)).trans A1
        have wh' := (hb3.block _ (block_lt wh)).trans wh
        have m0' := cells_cell (i := 0) wh' (v := .int .i64 (x1 : Int)) rfl
        have m1' := cells_cell (i := 1) wh' (v := .int .i64 (x2 : Int)) rfl
        have T2 : Hid (∀ V, Below V3.heap.size V3 V → Below W.heap.size W (V.putObj (D + 1) (L .ready none)) ∧ Below V2.heap.size V2 V) := Lib.hid fun V hV => ⟨T.out V (hb3.trans (hV.mono hb3.size)), hb3.trans (hV.mono hb3.size)⟩
        clear C1 A0 A1 m0 m1 n0 p0 p1 p2 p3 q0 q1 T hb3
        gi_wp2
        rw [roundsIn_succ]
        gi_wp2_with fail
        refine ⟨trivial, (CallsIn.inRound _ (callsIn_wide.2 C2)).mono ?_⟩
        rintro r V4 ⟨rfl, hb4⟩
        obtain ⟨t4, b4⟩ := T2.out V4 hb4
        have wl4 := (b4.block _ (block_lt wl)).trans wl
        have hE : ∀ k, F k → (V4.putObj (D + 1) (L .ready none)).heap[k]? = W.heap[k]? := fun k hk => t4.block k (HC.out.fr k hk).1
        have hJ : KeepF w W2 w.heap.size (fun k => k < WB.heap.size ∨ k = D ∨ k = D + 1) F (V4.putObj (D + 1) (L .ready none)) := (HC.out.next t4).sub (fun j hj => .inl hj)
        have hP := PX.out (by unfold longB; rw [decide_eq_true (show 1 ≤ n by omega)]; simp only [Bool.true_and]; exact decide_eq_false (show ¬ n ≤ (x2 : Int) - x1 by omega))
        have WL3 := Lib.hid wl4
        have HE := Lib.hid hE
        have HJ := Lib.hid hJ
        have HP := Lib.hid hP
        clear C2 T2 t4 b4 hb4 wl4 wh' m0' m1' A1' hE hJ hP wl w5 w6 w7 wA wN wm wh hb1 hn1 hn2 hN hA hxb hfx hx1 hx2 PX HC hB2
        gi_wp2
        refine wpIn_goto ?_
        refine ⟨rfl, wpIn_skip ?_⟩
        exact ⟨WL3.out, .inl ⟨rfl, ⟨HP.out, HJ.out⟩, HE.out⟩⟩
    · rw [decide_eq_false hn1] at C1
      gi_wp2
      refine wpIn_scope_ahead 0 rfl ?_
      gi_wp2
      refine wpIn_loop_rounds 1 ?_
      rw [roundsIn_succ]
      gi_wp2_with fail
      refine ⟨trivial, (CallsIn.inRound _ (callsIn_wide.2 C1)).mono ?_⟩
      rintro r V3 ⟨rfl, hb3⟩
      have wl3 := (hb3.block _ (block_lt wl)).trans wl
      have hE : ∀ k, F k → (V3.putObj (D + 1) (L .ready none)).heap[k]? = W.heap[k]? := fun k hk => (T.out V3 hb3).block k (HC.out.fr k hk).1
      have hJ : KeepF w W2 w.heap.size (fun k => k < WB.heap.size ∨ k = D ∨ k = D + 1) F (V3.putObj (D + 1) (L .ready none)) := (HC.out.next (T.out V3 hb3)).sub (fun j hj => .inl hj)
      have hP := PX.out (by unfold longB; rw [decide_eq_false (show ¬ 1 ≤ n by omega)]; rfl)
      have WL3 := Lib.hid wl3
      have HE := Lib.hid hE
      have HJ := Lib.hid hJ
      have HP := Lib.hid hP
      clear C1 hb3 hE hJ hP wl wl3 w5 w6 w7 wA wN wm wh hb1 hn1 hN hA hxb hfx
      gi_wp2
      refine wpIn_goto ?_
      refine ⟨rfl, wpIn_skip ?_⟩
      exact ⟨WL3.out, .inl ⟨rfl, ⟨HP.out, HJ.out⟩, HE.out⟩⟩
  · rintro e W ⟨hv, (⟨F, hpre, hC⟩ | hF)⟩
    · refine ⟨hv, (hC.same D (.inr (.inl rfl))).trans hK, .inl ⟨(hC.same (D + 1) (.inr (.inr rfl))).trans hL, ?_⟩⟩
      have HO := Lib.hid hpre
      have r6 := (hC.same (w.heap.size + 1) (.inl (by omega))).trans d6'
      have r7 := (hC.same (w.heap.size + 1 + 1) (.inl (by omega))).trans d7'
      have r8 := (hC.same (w.heap.size + 1 + 1 + 1) (.inl (by omega))).trans d8'
      have rm := (hC.same D (.inr (.inl rfl))).trans hK
      have rl := (hC.same (D + 1) (.inr (.inr rfl))).trans hL
      have hb1 : Below w.heap.size w (W.putObj (D + 1) (L .exhausted none)) := below_putObj hC.below _ rl (by omega)
      have w6 := (World.putObj_heap_other (o := L .exhausted none) (show w.heap.size + 1 ≠ D + 1 by omega)).trans r6
      have w7 := (World.putObj_heap_other (o := L .exhausted none) (show w.heap.size + 1 + 1 ≠ D + 1 by omega)).trans r7
      have w8 := (World.putObj_heap_other (o := L .exhausted none) (show w.heap.size + 1 + 1 + 1 ≠ D + 1 by omega)).trans r8
      have wm := (World.putObj_heap_other (o := L .exhausted none) (show D ≠ D + 1 by omega)).trans rm
      generalize W.putObj (D + 1) (L .exhausted none) = V2 at *
      have k : ∀ (W : World) (g i : Nat) (v : Value) (j : Nat), j ≠ g → (W.setCell ⟨g, i, none⟩ v).heap[j]? = W.heap[j]? := fun W g i v j hj => Below.heap_setCell W ⟨g, i, none⟩ v j hj
      have a1 := heap_setCell_same (i := 0) (.int .i64 0) w6
      have a2 := heap_setCell_same (i := 1) (.int .i64 0) a1
      have a3 := (k _ (w.heap.size + 1 + 1) 0 (.bool false) (w.heap.size + 1) (by omega)).trans a2
      have b1 := (k _ (w.heap.size + 1) 1 (.int .i64 0) (w.heap.size + 1 + 1) (by omega)).trans ((k _ (w.heap.size + 1) 0 (.int .i64 0) (w.heap.size + 1 + 1) (by omega)).trans w7)
      have b2 := heap_setCell_same (i := 0) (.bool false) b1
      have m1 := (k _ (w.heap.size + 1 + 1) 0 (.bool false) D (by omega)).trans ((k _ (w.heap.size + 1) 1 (.int .i64 0) D (by omega)).trans ((k _ (w.heap.size + 1) 0 (.int .i64 0) D (by omega)).trans wm))
      have hb2 := ((hb1.setCell (p := ⟨w.heap.size + 1, 0, none⟩) (by show w.heap.size ≤ w.heap.size + 1; omega) (.int .i64 0)).setCell (p := ⟨w.heap.size + 1, 1, none⟩) (by show w.heap.size ≤ w.heap.size + 1; omega) (.int .i64 0)).setCell (p := ⟨w.heap.size + 1 + 1, 0, none⟩) (by show w.heap.size ≤ w.heap.size + 1 + 1; omega) (.bool false)
      have p0 := cells_cell (i := 0) w6 (v := .int .i64 0) rfl
      have p1 := cells_cell (i := 1) w6 (v := .int .i64 0) rfl
      have p2 := cells_free (i := 0) w6
      have p3 := cells_free (i := 1) w6
      have q0 := cells_cell (i := 0) w7 (v := .bool false) rfl
      have q1 := cells_free (i := 0) w7
      have o0 := cells_cell (i := 0) w8 (v := .int .i64 0) rfl
      have o1 := cells_cell (i := 1) w8 (v := .int .i64 0) rfl
      have A3 := Lib.hid a3
      have B2 := Lib.hid b2
      have M1 := Lib.hid m1
      have HB2 := Lib.hid hb2
      clear a1 a2 a3 b1 b2 m1 hb2 k w6 w7 w8 wm rl rm r6 r7 r8 hb1 hC h0 hg hK hL hB2 d5' d6' d7' d8' hpre hxb
      go_wp2
      refine bodyPostR_ret (D := D) M1.out (results_hole_bool rfl _ _ (w.heap.size + 1) (w.heap.size + 1 + 1) 0 0 false rfl rfl ((World.putObj_heap_other (by omega)).trans A3.out) ((World.putObj_heap_other (by omega)).trans B2.out)) ⟨by rw [HO.out]; rfl, below_putObj HB2.out _ M1.out (by omega)⟩
    · obtain ⟨x, ho, h1, h2, h3, h4, h5, h6⟩ := hF
      refine ⟨hv, h5, .inr ⟨_, h6, ?_⟩⟩
      have HO := Lib.hid ho
      have e5 := (World.putObj_heap_other (o := L .exhausted (some .ret)) (show D ≠ D + 1 by omega)).trans h5
      have e3 := (World.putObj_heap_other (o := L .exhausted (some .ret)) (show w.heap.size + 1 ≠ D + 1 by omega)).trans h3
      have e4 := (World.putObj_heap_other (o := L .exhausted (some .ret)) (show w.heap.size + 1 + 1 ≠ D + 1 by omega)).trans h4
      have eb := below_putObj h1 (L .exhausted (some .ret)) h6 (by omega)
      clear h1 h2 h3 h4 h5 h6 ho hg h0 hB2
      go_wp2
      exact bodyPostR_ret (D := D) e5 (results_hole_bool rfl _ _ (w.heap.size + 1) (w.heap.size + 1 + 1) x.1 x.2 true rfl rfl ((World.putObj_heap_other (by omega)).trans e3) ((World.putObj_heap_other (by omega)).trans e4)) ⟨by rw [HO.out]; rfl, below_putObj eb _ e5 (by omega)⟩


theorem fromL_zero (l : List Int) : fromL l 0 = allL l := by unfold fromL allL holesT; rfl
theorem fitsO_eq (l : List Int) (n : Int) : fitsO l n = (allL l).find? (longB n) := rfl
theorem allL_mem {l : List Int} : ∀ h ∈ allL l, h.1 < h.2 ∧ h.2 < 33 := by
  unfold allL
  cases rightT l with
  | true => exact fun h hh => by have := scanH_mem (keptB l) 0 0 (Nat.le_refl _) h hh; omega
  | false => exact fun h hh => by cases hh

set_option maxHeartbeats 400000 in
theorem fits_any {w : World} {v : Value} {l : List Int} (hv : IntsV w v l) (n : Int) :
    Calls Tryd.prog 11 #[v, .int .i64 n] w fun r w' => r = .returned (optV (fitsO l n)) ∧ Below w.heap.size w w' := by
  obtain ⟨a, cap, rfl⟩ := hv.slice
  rw [fitsO_eq]
  obtain ⟨WA, hWA, a0, a1, a2, a3⟩ := allocs2 w (.cells #[.int .i64 n] 3) (.cells #[.int .i64 0, .int .i64 0] 29)
  have O := open_any (hv.below a0)
  obtain ⟨W1, hW1, e0, e1', e2'⟩ := allocs1 WA.drew (.cells #[.slice a l.length l.length, .bool (rightT l)] 62)
  have e2 : W1.heap[WA.heap.size]? = some (.cells #[.slice a l.length l.length, .bool (rightT l)] 62 (0, 0)) := e2'
  have e1 : W1.heap.size = WA.heap.size + 1 := e1'
  have eb : Below WA.heap.size WA W1 := (Below.refl _ WA).drew.trans e0
  obtain ⟨WF, hWF, g0, g1, g2⟩ := allocs1 W1 (.cells #[.func (.func 23) #[] #[.pointer (some ⟨w.heap.size, 0, none⟩)], .func (.func 24) #[] #[.pointer (some ⟨w.heap.size, 0, none⟩)]] 63)
  have bN := (g0.block _ (by omega)).trans ((eb.block _ (by omega)).trans a2)
  have b2 := (g0.block _ (by omega)).trans ((eb.block _ (by omega)).trans a3)
  have hfr := givesFrom ((g0.block _ (block_lt e2)).trans e2) ((((hv.below a0).cut).below eb).below g0) 0
  rw [fromL_zero] at hfr
  have F := first_fits hfr allL_mem g2 (cells_cell (i := 0) bN (v := .int .i64 n) rfl)
  obtain ⟨y1, y2, hy⟩ := encH_agg ((allL l).find? (longB n))
  rw [hy] at F ⊢
  generalize ((allL l).find? (longB n)).isSome = ok at F ⊢
  have bb : Below w.heap.size w WF := (a0.trans (eb.mono a0.size)).trans (g0.mono (by have := a0.size; omega))
  have hle : w.heap.size + 1 < WF.heap.size := by omega
  have HA := Lib.hid hWA
  clear hWA hv a0 a1 a2 a3 e0 e1' e2' e2 e1 eb hy g0 g1 g2 bN hfr
  go_enter Tryd.func11, Tryd.ntmps11
  go_wp2_with fail
  rw [HA.out]
  refine O.mono ?_
  rintro r W1' ⟨rfl, hw1⟩
  rw [hW1] at hw1
  subst hw1
  clear O hW1 HA
  go_wp2_with fail
  refine F.mono ?_
  rintro r W3 ⟨rfl, hb3⟩
  have b3 := (hb3.block _ hle).trans b2
  have c0 := cells_cell (i := 0) b3 (v := .int .i64 0) rfl
  have c1 := cells_cell (i := 1) b3 (v := .int .i64 0) rfl
  have c2 := cells_free (i := 0) b3
  have c3 := cells_free (i := 1) b3
  have d1 := heap_setCell_same (i := 1) (.int .i64 (y2 : Int)) (heap_setCell_same (i := 0) (.int .i64 (y1 : Int)) b3)
  have D1 := Lib.hid d1
  have hbb := ((bb.trans (hb3.mono (by omega))).setCell (p := ⟨w.heap.size + 1, 0, none⟩) (by show w.heap.size ≤ w.heap.size + 1; omega) (.int .i64 (y1 : Int))).setCell (p := ⟨w.heap.size + 1, 1, none⟩) (by show w.heap.size ≤ w.heap.size + 1; omega) (.int .i64 (y2 : Int))
  have HBB := Lib.hid hbb
  clear hbb d1 F b2 bb hb3 b3
  go_wp2
  exact bodyPost_ret (results_hole_tmp rfl _ _ (w.heap.size + 1) y1 y2 rfl D1.out) rfl ⟨rfl, HBB.out⟩
end Go.Proofs.YtmgllljilnkkcaaDoor

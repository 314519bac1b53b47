/- Layer hole: the first hole from a line on, of which nothing is asked: Next. -/
import Derived.Test.YtmgllljilnkkcaaDoorP8
import Derived.Test.YtmgllljilnkkcaaDoorKf
namespace Go.Proofs.YtmgllljilnkkcaaDoor
open Go Go.RowKit Go.Shelf
attribute [local go_sem ↓] Go.wp_at_zero Go.wp_at_succ
attribute [local go_sem] Oper.semAt_some

/-- The iterator of finder B from line x on hands xs, in whatever world behind w. -/
def GivesFrom (w : World) (B : Nat) (x : Int) (xs : List (Nat × Nat)) : Prop :=
  ∀ (W : World) (C D : Nat) (F0 : Nat → Prop), Below w.heap.size w W → W.cell? ⟨C, 0, none⟩ = some (.pointer (some ⟨B, 0, none⟩)) → W.cell? ⟨D, 0, none⟩ = some (.int .i64 x) →
    GivesF Tryd.prog 31 #[.pointer (some ⟨C, 0, none⟩), .pointer (some ⟨D, 0, none⟩)] encH xs F0 W

def fromL (l : List Int) (x : Int) : List (Nat × Nat) := bif rightT l then scanH (keptB l) x.toNat x.toNat else []
theorem givesFrom {w : World} {B : Nat} {a : Option Addr} {l : List Int} (hB : w.heap[B]? = some (.cells #[.slice a l.length l.length, .bool (rightT l)] 62 (0, 0))) (hv : IntsV w (.slice a l.length l.length) l) (x : Int) : GivesFrom w B x (fromL l x) := by
  intro W C D F0 hb hC hD
  unfold fromL
  cases hr : rightT l with
  | true =>
    rw [hr] at hB
    exact holes1_gives hC hD ((hb.block _ (block_lt hB)).trans hB) (hv.below hb) x.toNat (by omega)
  | false =>
    rw [hr] at hB
    exact holes1_none hC ((hb.block _ (block_lt hB)).trans hB)

theorem results_hole_bool {fn : Func} {p u : Tmp} (h : fn.results = #[.cell p 29, .cell u 4]) (tmps : Array Value) (w : World) (g1 g2 : Nat) (x1 x2 : Int) (b : Bool)
    (hp : tmps.getD p undef = .pointer (some ⟨g1, 0, none⟩)) (hu : tmps.getD u undef = .pointer (some ⟨g2, 0, none⟩))
    (h1 : w.heap[g1]? = some (.cells #[.int .i64 x1, .int .i64 x2] 29 (0, 0))) (h2 : w.heap[g2]? = some (.cells #[.bool b] 4 (0, 0))) :
    (results fn tmps).run Tryd.prog w = .ok (.tuple #[.agg #[.int .i64 x1, .int .i64 x2], .bool b]) w := by
  have hp' : tmps[p]?.getD undef = .pointer (some ⟨g1, 0, none⟩) := by simpa using hp
  have hu' : tmps[u]?.getD undef = .pointer (some ⟨g2, 0, none⟩) := by simpa using hu
  have hi : (Tryd.prog.info? 29).map (·.size) = some 2 := by kernel_rfl
  have c2 := cells_cell (i := 0) h2 (v := .bool b) rfl
  have e1 := run_loadVar_row w g1 29 29 #[.int .i64 x1, .int .i64 x2] (0, 0) _ h1 Tryd.underlying29 rfl hi
  have e2 : (loadVar 4 ⟨g2, 0, none⟩).run Tryd.prog w = .ok (.bool b) w := by
    have := Tryd.underlying4
    simp [loadVar, Sem.run_bind, isAgg, run_underlying this, c2, go_sem]
  simp [results, h, hp', hu', asAddr, e1, e2, Sem.run_bind]

/-- What is left where the loop of 'first' has been left by its return. -/
def StopE (w : World) (s g6 g7 D : Nat) (L : LoopState → Option Code → Obj) (o : Option (Nat × Nat)) (W : World) : Prop :=
  ∃ x : Nat × Nat, o = some x ∧ Below s w W ∧ s ≤ W.heap.size ∧ W.heap[g6]? = some (.cells #[.int .i64 x.1, .int .i64 x.2] 29 (0, 0)) ∧ W.heap[g7]? = some (.cells #[.bool true] 4 (0, 0)) ∧
    W.heap[D]? = some (.deferred (some [])) ∧ W.heap[D + 1]? = some (L .done (some .ret))
theorem StopE.next {w : World} {s g6 g7 D : Nat} {L : LoopState → Option Code → Obj} {o : Option (Nat × Nat)} {W W' : World} (h : StopE w s g6 g7 D L o W) (hb : Below W.heap.size W W') : StopE w s g6 g7 D L o W' := by
  obtain ⟨x, ho, h1, h2, h3, h4, h5, h6⟩ := h
  exact ⟨x, ho, h1.trans (hb.mono h2), Nat.le_trans h2 hb.size, (hb.block _ (block_lt h3)).trans h3, (hb.block _ (block_lt h4)).trans h4, (hb.block _ (block_lt h5)).trans h5, (hb.block _ (block_lt h6)).trans h6⟩

theorem stopE_set {w V : World} {s g6 g7 D : Nat} {L : LoopState → Option Code → Obj} {x1 x2 : Nat} {y1 y2 z : Value} (h6 : V.heap[g6]? = some (.cells #[y1, y2] 29 (0, 0))) (h7 : V.heap[g7]? = some (.cells #[z] 4 (0, 0)))
    (hm : V.heap[D]? = some (.deferred (some []))) (hl : V.heap[D + 1]? = some (L .busy none)) (hb : Below s w V) (hs6 : s ≤ g6) (hs7 : g6 < g7) (hD : g7 < D) :
    (((V.setCell ⟨g6, 0, none⟩ (.int .i64 (x1 : Int))).setCell ⟨g6, 1, none⟩ (.int .i64 (x2 : Int))).setCell ⟨g7, 0, none⟩ (.bool true)).heap[D + 1]? = some (L .busy none) ∧
    StopE w s g6 g7 D L (some (x1, x2)) ((((V.setCell ⟨g6, 0, none⟩ (.int .i64 (x1 : Int))).setCell ⟨g6, 1, none⟩ (.int .i64 (x2 : Int))).setCell ⟨g7, 0, none⟩ (.bool true)).putObj (D + 1) (L .done (some .ret))) := by
  have k : ∀ (W : World) (g i : Nat) (v : Value) (j : Nat), j ≠ g → (W.setCell ⟨g, i, none⟩ v).heap[j]? = W.heap[j]? := fun W g i v j hj => Below.heap_setCell W ⟨g, i, none⟩ v j hj
  have a1 := heap_setCell_same (i := 0) (.int .i64 (x1 : Int)) h6
  have a2 := heap_setCell_same (i := 1) (.int .i64 (x2 : Int)) a1
  have b1 := (k _ g6 1 (.int .i64 (x2 : Int)) g7 (by omega)).trans ((k _ g6 0 (.int .i64 (x1 : Int)) g7 (by omega)).trans h7)
  have b2 := heap_setCell_same (i := 0) (.bool true) b1
  have a3 := (k _ g7 0 (.bool true) g6 (by omega)).trans a2
  have m1 := (k _ g7 0 (.bool true) D (by omega)).trans ((k _ g6 1 (.int .i64 (x2 : Int)) D (by omega)).trans ((k _ g6 0 (.int .i64 (x1 : Int)) D (by omega)).trans hm))
  have l1 := (k _ g7 0 (.bool true) (D + 1) (by omega)).trans ((k _ g6 1 (.int .i64 (x2 : Int)) (D + 1) (by omega)).trans ((k _ g6 0 (.int .i64 (x1 : Int)) (D + 1) (by omega)).trans hl))
  have hb1 := ((hb.setCell (p := ⟨g6, 0, none⟩) hs6 (.int .i64 (x1 : Int))).setCell (p := ⟨g6, 1, none⟩) hs6 (.int .i64 (x2 : Int))).setCell (p := ⟨g7, 0, none⟩) (by show s ≤ g7; omega) (.bool true)
  refine ⟨l1, (x1, x2), rfl, below_putObj hb1 _ l1 (by omega), ?_, ?_, ?_, ?_, ?_⟩
  · rw [putObj_size]; have := block_lt l1; omega
  · exact (World.putObj_heap_other (by omega)).trans a3
  · exact (World.putObj_heap_other (by omega)).trans b2
  · exact (World.putObj_heap_other (by omega)).trans m1
  · exact World.putObj_heap_same (block_lt l1)

set_option maxHeartbeats 1000000 in
set_option maxRecDepth 20000 in
theorem first_nil {w : World} {B : Nat} {x : Int} {xs : List (Nat × Nat)} (hG : GivesFrom w B x xs) :
    Calls Tryd.prog 21 #[.pointer (some ⟨B, 0, none⟩), .int .i64 x, .slice none 0 0] w fun r w' => r = .returned (optV xs.head?) ∧ Below w.heap.size w w' := by
  obtain ⟨WA, hWA, a0, a1, a2, a3⟩ := allocs2 w (.cells #[.slice none 0 0] 73) (.cells #[.int .i64 0, .int .i64 0] 29)
  obtain ⟨WB, hWB, b0, b1, b2, b3⟩ := allocs2 WA (.cells #[.bool false] 4) (.cells #[.int .i64 0, .int .i64 0] 29)
  obtain ⟨W0, hW0, f0, f1, f3, f4⟩ := allocs2 WB (.cells #[.pointer (some ⟨B, 0, none⟩)] 53) (.cells #[.int .i64 x] 3)
  have hHo := holes_any B x WB
  have g3 := cells_cell (i := 0) f3 (v := .pointer (some ⟨B, 0, none⟩)) rfl
  have g4 := cells_cell (i := 0) f4 (v := .int .i64 x) rfl
  have c0 : Below w.heap.size w W0 := (a0.trans (b0.mono a0.size)).trans (f0.mono (by have := a0.size; have := b0.size; omega))
  have hg := hG W0 _ _ (fun j => j < W0.heap.size ∧ WB.heap.size ≤ j) c0 g3 g4
  have e3 : WB.heap.size = w.heap.size + 4 := by omega
  rw [show WA.heap.size = w.heap.size + 1 + 1 by omega] at b2 b3
  have d6 : W0.heap[w.heap.size + 1]? = some (.cells #[.int .i64 0, .int .i64 0] 29 (0, 0)) := (f0.block _ (by omega)).trans ((b0.block _ (by omega)).trans a3)
  have d7 : W0.heap[w.heap.size + 1 + 1]? = some (.cells #[.bool false] 4 (0, 0)) := (f0.block _ (by omega)).trans b2
  have d8 : W0.heap[w.heap.size + 1 + 1 + 1]? = some (.cells #[.int .i64 0, .int .i64 0] 29 (0, 0)) := (f0.block _ (by omega)).trans b3
  have d5 : W0.heap[w.heap.size]? = some (.cells #[.slice none 0 0] 73 (0, 0)) := (f0.block _ (by omega)).trans ((b0.block _ (by omega)).trans a2)
  have hWBs : w.heap.size + 4 ≤ WB.heap.size := by omega
  have hW0s : WB.heap.size ≤ W0.heap.size := by omega
  have HA := Lib.hid hWA
  have HB := Lib.hid hWB
  clear hWA hWB a0 a1 a2 a3 b0 b1 b2 b3 g3 g4 f3 f4 f0 f1 e3
  refine calls_of_wp_marks Tryd.func21 rfl ?_
  simp only [Tryd.ntmps21, List.size_toArray, List.length_cons, List.length_nil, Nat.reduceAdd, Nat.reduceSub, Array.replicate_succ, Array.replicate_zero, List.push_toArray, List.append_toArray, List.nil_append, List.cons_append]
  go_wp2_with fail
  rw [HA.out, HB.out]
  refine hHo.mono ?_
  rintro r W0' ⟨rfl, hw⟩
  rw [hW0] at hw
  subst hw
  clear hHo hW0 HA HB
  go_wp2_with fail
  refine rf_wp (gf := 31) (lb := #[.pointer (some ⟨WB.heap.size, 0, none⟩), .pointer (some ⟨WB.heap.size + 1, 0, none⟩)]) rfl (enters_of Tryd.func31 (by kernel_rfl) rfl) ?_
  intro D L W2 hD hRf hB2 hsz hK hL
  have hKp : ∀ k, (k < WB.heap.size ∨ k = D ∨ k = D + 1) → k < W2.heap.size := by intro k hk; have := hB2.size; omega
  have h0 : KeepF w W2 w.heap.size (fun k => k < WB.heap.size ∨ k = D ∨ k = D + 1) (fun j => j < W0.heap.size ∧ WB.heap.size ≤ j) W2 :=
    ⟨c0.trans (hB2.mono c0.size), by omega, Nat.le_refl _, hKp, fun _ _ => rfl, fun j hj => ⟨by omega, by omega⟩⟩
  have hD0 : WB.heap.size ≤ D := by omega
  have d5' := (hB2.block _ (by omega)).trans d5
  have d6' := (hB2.block _ (by omega)).trans d6
  have d7' := (hB2.block _ (by omega)).trans d7
  have d8' := (hB2.block _ (by omega)).trans d8
  have hle0 : w.heap.size ≤ W0.heap.size := by omega
  clear d5 d6 d7 d8 hD hsz c0 hG hKp
  refine (hg (D + 1) (fun pre F W => pre = [] ∧ KeepF w W2 w.heap.size (fun k => k < WB.heap.size ∨ k = D ∨ k = D + 1) F W) (StopE w w.heap.size (w.heap.size + 1) (w.heap.size + 1 + 1) D L xs.head?) W2 hB2 ⟨rfl, h0⟩
    (fun _ _ _ _ h hb => ⟨h.1, h.2.next hb⟩) (fun _ _ _ b i u h hF hle' => ⟨h.1, h.2.set b i u hF (by omega)⟩) (fun _ _ _ _ h hs => ⟨h.1, h.2.sub hs⟩) (fun _ _ h hb => h.next hb) ?_).mono ?_
  · intro pre x post F W hxs ⟨hpre, hC⟩
    subst hpre
    refine (?_ : YieldAt Fence.wide 8 _ _ _ W fun e W' => e = .returned (.bool false) ∧ StopE w w.heap.size (w.heap.size + 1) (w.heap.size + 1 + 1) D L xs.head? W').mono fun e W' h => .inr h
    have hx : xs.head? = some x := by rw [hxs]; rfl
    rw [hx]
    clear hxs hg h0 hx
    obtain ⟨x1, x2⟩ := x
    change YieldAt Fence.wide 8 _ _ #[.agg #[.int .i64 (x1 : Int), .int .i64 (x2 : Int)]] W _
    have hsame := hC.same
    have hsl := (hsame (D + 1) (.inr (.inr rfl))).trans hL
    have hsm := (hsame D (.inr (.inl rfl))).trans hK
    have s5 := (hsame w.heap.size (.inl (by omega))).trans d5'
    have s6 := (hsame (w.heap.size + 1) (.inl (by omega))).trans d6'
    have s7 := (hsame (w.heap.size + 1 + 1) (.inl (by omega))).trans d7'
    clear hsame
    refine hRf.round _ _ _ rfl hsl ?_
    obtain ⟨V0, hV0, u0, u1, u2⟩ := allocs1 W (.cells #[.int .i64 (x1 : Int), .int .i64 (x2 : Int)] 29)
    gi_wp2
    have hC0 := (hC.next u0).sub (F' := F) (fun j hj => .inl hj)
    have v5 := (u0.block _ (block_lt s5)).trans s5
    have v6 := (u0.block _ (block_lt s6)).trans s6
    have v7 := (u0.block _ (block_lt s7)).trans s7
    have vl := (u0.block _ (block_lt hsl)).trans hsl
    have vm := (u0.block _ (block_lt hsm)).trans hsm
    have hW1 := hC.size
    have hlt2 := block_lt hsl
    refine ⟨vl, ?_⟩
    have hb1 : Below w.heap.size w (V0.putObj (D + 1) (L .busy none)) := below_putObj hC0.below _ vl (by omega)
    have hz1 : (V0.putObj (D + 1) (L .busy none)).heap.size = V0.heap.size := putObj_size _ _ _
    have w5 := (World.putObj_heap_other (o := L .busy none) (show w.heap.size ≠ D + 1 by omega)).trans v5
    have w6 := (World.putObj_heap_other (o := L .busy none) (show w.heap.size + 1 ≠ D + 1 by omega)).trans v6
    have w7 := (World.putObj_heap_other (o := L .busy none) (show w.heap.size + 1 + 1 ≠ D + 1 by omega)).trans v7
    have wm := (World.putObj_heap_other (o := L .busy none) (show D ≠ D + 1 by omega)).trans vm
    have wl : (V0.putObj (D + 1) (L .busy none)).heap[D + 1]? = some (L .busy none) := World.putObj_heap_same (block_lt vl)
    have wh := (World.putObj_heap_other (o := L .busy none) (show W.heap.size ≠ D + 1 by omega)).trans u2
    have hz2 : w.heap.size + 4 ≤ V0.heap.size := by have := hC0.size; omega
    generalize V0.putObj (D + 1) (L .busy none) = V2 at *
    have m0 := cells_cell (i := 0) wh (v := .int .i64 (x1 : Int)) rfl
    have m1 := cells_cell (i := 1) wh (v := .int .i64 (x2 : Int)) rfl
    have n0 := cells_cell (i := 0) w5 (v := .slice none 0 0) rfl
    have p0 := cells_cell (i := 0) w6 (v := .int .i64 0) rfl
    have p1 := cells_cell (i := 1) w6 (v := .int .i64 0) rfl
    have p2 := cells_free (i := 0) w6
    have p3 := cells_free (i := 1) w6
    have q0 := cells_cell (i := 0) w7 (v := .bool false) rfl
    have q1 := cells_free (i := 0) w7
    have hs := stopE_set (x1 := x1) (x2 := x2) w6 w7 wm wl hb1 (by omega) (by omega) (by omega)
    have HS := Lib.hid hs
    clear hs hV0 u0 u1 u2 v5 v6 v7 vl vm s5 s6 s7 hsl hsm w5 w6 w7 wm wh wl hz1 hz2 hb1 hC0 hC d5' d6' d7' d8' hK hL
    gi_wp2
    refine wpIn_scope_straight ?_
    gi_wp2
    refine wpIn_loop_rounds 1 ?_
    rw [roundsIn_succ]
    gi_wp2
    exact ⟨HS.out.1, rfl, HS.out.2⟩
  · rintro e W ⟨hv, (⟨F, hpre, hC⟩ | hF)⟩
    · refine ⟨hv, (hC.same D (.inr (.inl rfl))).trans hK, .inl ⟨(hC.same (D + 1) (.inr (.inr rfl))).trans hL, ?_⟩⟩
      have hxs : xs = [] := hpre
      subst hxs
      have r6 := (hC.same (w.heap.size + 1) (.inl (by omega))).trans d6'
      have r7 := (hC.same (w.heap.size + 1 + 1) (.inl (by omega))).trans d7'
      have r8 := (hC.same (w.heap.size + 1 + 1 + 1) (.inl (by omega))).trans d8'
      have rm := (hC.same D (.inr (.inl rfl))).trans hK
      have rl := (hC.same (D + 1) (.inr (.inr rfl))).trans hL
      have hb1 : Below w.heap.size w (W.putObj (D + 1) (L .exhausted none)) := below_putObj hC.below _ rl (by omega)
      have w6 := (World.putObj_heap_other (o := L .exhausted none) (show w.heap.size + 1 ≠ D + 1 by omega)).trans r6
      have w7 := (World.putObj_heap_other (o := L .exhausted none) (show w.heap.size + 1 + 1 ≠ D + 1 by omega)).trans r7
      have w8 := (World.putObj_heap_other (o := L .exhausted none) (show w.heap.size + 1 + 1 + 1 ≠ D + 1 by omega)).trans r8
      have wm := (World.putObj_heap_other (o := L .exhausted none) (show D ≠ D + 1 by omega)).trans rm
      generalize W.putObj (D + 1) (L .exhausted none) = V2 at *
      have k : ∀ (W : World) (g i : Nat) (v : Value) (j : Nat), j ≠ g → (W.setCell ⟨g, i, none⟩ v).heap[j]? = W.heap[j]? := fun W g i v j hj => Below.heap_setCell W ⟨g, i, none⟩ v j hj
      have a1 := heap_setCell_same (i := 0) (.int .i64 0) w6
      have a2 := heap_setCell_same (i := 1) (.int .i64 0) a1
      have a3 := (k _ (w.heap.size + 1 + 1) 0 (.bool false) (w.heap.size + 1) (by omega)).trans a2
      have b1 := (k _ (w.heap.size + 1) 1 (.int .i64 0) (w.heap.size + 1 + 1) (by omega)).trans ((k _ (w.heap.size + 1) 0 (.int .i64 0) (w.heap.size + 1 + 1) (by omega)).trans w7)
      have b2 := heap_setCell_same (i := 0) (.bool false) b1
      have m1 := (k _ (w.heap.size + 1 + 1) 0 (.bool false) D (by omega)).trans ((k _ (w.heap.size + 1) 1 (.int .i64 0) D (by omega)).trans ((k _ (w.heap.size + 1) 0 (.int .i64 0) D (by omega)).trans wm))
      have hb2 := ((hb1.setCell (p := ⟨w.heap.size + 1, 0, none⟩) (by show w.heap.size ≤ w.heap.size + 1; omega) (.int .i64 0)).setCell (p := ⟨w.heap.size + 1, 1, none⟩) (by show w.heap.size ≤ w.heap.size + 1; omega) (.int .i64 0)).setCell (p := ⟨w.heap.size + 1 + 1, 0, none⟩) (by show w.heap.size ≤ w.heap.size + 1 + 1; omega) (.bool false)
      have p0 := cells_cell (i := 0) w6 (v := .int .i64 0) rfl
      have p1 := cells_cell (i := 1) w6 (v := .int .i64 0) rfl
      have p2 := cells_free (i := 0) w6
      have p3 := cells_free (i := 1) w6
      have q0 := cells_cell (i := 0) w7 (v := .bool false) rfl
      have q1 := cells_free (i := 0) w7
      have o0 := cells_cell (i := 0) w8 (v := .int .i64 0) rfl
      have o1 := cells_cell (i := 1) w8 (v := .int .i64 0) rfl
      have A3 := Lib.hid a3
      have B2 := Lib.hid b2
      have M1 := Lib.hid m1
      have HB2 := Lib.hid hb2
      clear a1 a2 a3 b1 b2 m1 hb2 k w6 w7 w8 wm rl rm r6 r7 r8 hb1 hC h0 hg hK hL hB2 d5' d6' d7' d8' hpre
      go_wp2
      refine bodyPostR_ret (D := D) M1.out (results_hole_bool rfl _ _ (w.heap.size + 1) (w.heap.size + 1 + 1) 0 0 false rfl rfl ((World.putObj_heap_other (by omega)).trans A3.out) ((World.putObj_heap_other (by omega)).trans B2.out)) ⟨rfl, below_putObj HB2.out _ M1.out (by omega)⟩
    · obtain ⟨x, ho, h1, h2, h3, h4, h5, h6⟩ := hF
      refine ⟨hv, h5, .inr ⟨_, h6, ?_⟩⟩
      have HO := Lib.hid ho
      have e5 := (World.putObj_heap_other (o := L .exhausted (some .ret)) (show D ≠ D + 1 by omega)).trans h5
      have e3 := (World.putObj_heap_other (o := L .exhausted (some .ret)) (show w.heap.size + 1 ≠ D + 1 by omega)).trans h3
      have e4 := (World.putObj_heap_other (o := L .exhausted (some .ret)) (show w.heap.size + 1 + 1 ≠ D + 1 by omega)).trans h4
      have eb := below_putObj h1 (L .exhausted (some .ret)) h6 (by omega)
      clear h1 h2 h3 h4 h5 h6 ho hg h0 hB2
      go_wp2
      exact bodyPostR_ret (D := D) e5 (results_hole_bool rfl _ _ (w.heap.size + 1) (w.heap.size + 1 + 1) x.1 x.2 true rfl rfl ((World.putObj_heap_other (by omega)).trans e3) ((World.putObj_heap_other (by omega)).trans e4)) ⟨by rw [HO.out]; rfl, below_putObj eb _ e5 (by omega)⟩

theorem results_hole_tmp {fn : Func} {p u : Tmp} (h : fn.results = #[.cell p 29, .tmp u]) (tmps : Array Value) (w : World) (g1 : Nat) (x1 x2 : Int)
    (hp : tmps.getD p undef = .pointer (some ⟨g1, 0, none⟩)) (h1 : w.heap[g1]? = some (.cells #[.int .i64 x1, .int .i64 x2] 29 (0, 0))) :
    (results fn tmps).run Tryd.prog w = .ok (.tuple #[.agg #[.int .i64 x1, .int .i64 x2], tmps.getD u undef]) w := by
  have hi : (Tryd.prog.info? 29).map (·.size) = some 2 := by kernel_rfl
  have e1 := run_loadVar_row w g1 29 29 #[.int .i64 x1, .int .i64 x2] (0, 0) _ h1 Tryd.underlying29 rfl hi
  rw [results_cell_tmp h, hp]
  simp [asAddr, e1]

theorem encH_agg (o : Option (Nat × Nat)) : ∃ y1 y2 : Nat, optV o = .tuple #[.agg #[.int .i64 y1, .int .i64 y2], .bool o.isSome] := ⟨_, _, rfl⟩

set_option maxHeartbeats 400000 in
theorem next_any {w : World} {v : Value} {l : List Int} (hv : IntsV w v l) (x : Int) :
    Calls Tryd.prog 7 #[v, .int .i64 x] w fun r w' => r = .returned (optV (nextO l x)) ∧ Below w.heap.size w w' := by
  obtain ⟨a, cap, rfl⟩ := hv.slice
  have e : nextO l x = (fromL l x).head? := by unfold nextO fromL; cases rightT l <;> rfl
  rw [e]
  clear e
  obtain ⟨WA, hWA, a0, a1, a2⟩ := allocs1 w (.cells #[.int .i64 0, .int .i64 0] 29)
  have O := open_any (hv.below a0)
  obtain ⟨W1, hW1, e0, e1', e2'⟩ := allocs1 WA.drew (.cells #[.slice a l.length l.length, .bool (rightT l)] 62)
  have e2 : W1.heap[WA.heap.size]? = some (.cells #[.slice a l.length l.length, .bool (rightT l)] 62 (0, 0)) := e2'
  have e1 : W1.heap.size = WA.heap.size + 1 := e1'
  have eb : Below WA.heap.size WA W1 := (Below.refl _ WA).drew.trans e0
  have F := first_nil (givesFrom e2 (((hv.below a0).cut).below eb) x)
  obtain ⟨y1, y2, hy⟩ := encH_agg (fromL l x).head?
  rw [hy] at F ⊢
  generalize (fromL l x).head?.isSome = ok at F ⊢
  have b2 := (eb.block _ (by omega)).trans a2
  have bb : Below w.heap.size w W1 := a0.trans (eb.mono a0.size)
  have hle : w.heap.size < W1.heap.size := by omega
  have HA := Lib.hid hWA
  clear hWA hv a0 a1 a2 e0 e1' e2' e2 e1 eb hy
  go_enter Tryd.func7, Tryd.ntmps7
  go_wp2_with fail
  rw [HA.out]
  refine O.mono ?_
  rintro r W1' ⟨rfl, hw1⟩
  rw [hW1] at hw1
  subst hw1
  clear O hW1 HA
  go_wp2_with fail
  refine F.mono ?_
  rintro r W3 ⟨rfl, hb3⟩
  have b3 := (hb3.block _ hle).trans b2
  have c0 := cells_cell (i := 0) b3 (v := .int .i64 0) rfl
  have c1 := cells_cell (i := 1) b3 (v := .int .i64 0) rfl
  have c2 := cells_free (i := 0) b3
  have c3 := cells_free (i := 1) b3
  have d1 := heap_setCell_same (i := 1) (.int .i64 (y2 : Int)) (heap_setCell_same (i := 0) (.int .i64 (y1 : Int)) b3)
  have D1 := Lib.hid d1
  have hbb := ((bb.trans (hb3.mono (by omega))).setCell (p := ⟨w.heap.size, 0, none⟩) (Nat.le_refl _) (.int .i64 (y1 : Int))).setCell (p := ⟨w.heap.size, 1, none⟩) (Nat.le_refl _) (.int .i64 (y2 : Int))
  have HBB := Lib.hid hbb
  clear hbb d1 F b2 bb hb3 b3
  go_wp2
  exact bodyPost_ret (results_hole_tmp rfl _ _ w.heap.size y1 y2 rfl D1.out) rfl ⟨rfl, HBB.out⟩
end Go.Proofs.YtmgllljilnkkcaaDoor

/- Layer bits: the next place that is so. -/
import Derived.Test.YtlncilcoohmlkaaDoorU3
namespace Go.Proofs.YtlncilcoohmlkaaDoor
open Go Go.RowKit Go.Shelf
attribute [local go_sem ↓] Go.wp_at_zero Go.wp_at_succ
attribute [local go_sem] Oper.semAt_some

/-- The first place from x on that is so. -/
def nextI (n : Int) (ws : List Nat) (x : Int) (on : Bool) : Option Nat := bif rightB n ws then (placesL ws n.toNat x on).head? else none
def optP (o : Option Nat) : Value := .tuple #[.int .i64 (o.getD 0 : Nat), .bool o.isSome]

theorem results_int_bool {fn : Func} {p u : Tmp} (h : fn.results = #[.cell p 3, .cell u 4]) (tmps : Array Value) (w : World) (g1 g2 : Nat) (x1 : Int) (b : Bool)
    (hp : tmps.getD p undef = .pointer (some ⟨g1, 0, none⟩)) (hu : tmps.getD u undef = .pointer (some ⟨g2, 0, none⟩))
    (h1 : w.heap[g1]? = some (.cells #[.int .i64 x1] 3 (0, 0))) (h2 : w.heap[g2]? = some (.cells #[.bool b] 4 (0, 0))) :
    (results fn tmps).run Tryd.prog w = .ok (.tuple #[.int .i64 x1, .bool b]) w := by
  have hp' : tmps[p]?.getD undef = .pointer (some ⟨g1, 0, none⟩) := by simpa using hp
  have hu' : tmps[u]?.getD undef = .pointer (some ⟨g2, 0, none⟩) := by simpa using hu
  have c1 := cells_cell (i := 0) h1 (v := .int .i64 x1) rfl
  have c2 := cells_cell (i := 0) h2 (v := .bool b) rfl
  have e1 : (loadVar 3 ⟨g1, 0, none⟩).run Tryd.prog w = .ok (.int .i64 x1) w := by
    have := Tryd.underlying3
    simp [loadVar, Sem.run_bind, isAgg, run_underlying this, c1, go_sem]
  have e2 : (loadVar 4 ⟨g2, 0, none⟩).run Tryd.prog w = .ok (.bool b) w := by
    have := Tryd.underlying4
    simp [loadVar, Sem.run_bind, isAgg, run_underlying this, c2, go_sem]
  simp [results, h, hp', hu', asAddr, e1, e2, Sem.run_bind]

def StopP (w : World) (s g6 g7 D : Nat) (L : LoopState → Option Code → Obj) (o : Option Nat) (W : World) : Prop :=
  ∃ x : Nat, o = some x ∧ Below s w W ∧ s ≤ W.heap.size ∧ W.heap[g6]? = some (.cells #[.int .i64 (x : Int)] 3 (0, 0)) ∧ W.heap[g7]? = some (.cells #[.bool true] 4 (0, 0)) ∧
    W.heap[D]? = some (.deferred (some [])) ∧ W.heap[D + 1]? = some (L .done (some .ret))
theorem StopP.next {w : World} {s g6 g7 D : Nat} {L : LoopState → Option Code → Obj} {o : Option Nat} {W W' : World} (h : StopP w s g6 g7 D L o W) (hb : Below W.heap.size W W') : StopP w s g6 g7 D L o W' := by
  obtain ⟨x, ho, h1, h2, h3, h4, h5, h6⟩ := h
  exact ⟨x, ho, h1.trans (hb.mono h2), Nat.le_trans h2 hb.size, (hb.block _ (block_lt h3)).trans h3, (hb.block _ (block_lt h4)).trans h4, (hb.block _ (block_lt h5)).trans h5, (hb.block _ (block_lt h6)).trans h6⟩
theorem stopP_set {w V : World} {s g6 g7 D : Nat} {L : LoopState → Option Code → Obj} {x1 : Nat} {y1 z : Value} (h6 : V.heap[g6]? = some (.cells #[y1] 3 (0, 0))) (h7 : V.heap[g7]? = some (.cells #[z] 4 (0, 0)))
    (hm : V.heap[D]? = some (.deferred (some []))) (hl : V.heap[D + 1]? = some (L .busy none)) (hb : Below s w V) (hs6 : s ≤ g6) (hs7 : g6 < g7) (hD : g7 < D) :
    ((V.setCell ⟨g6, 0, none⟩ (.int .i64 (x1 : Int))).setCell ⟨g7, 0, none⟩ (.bool true)).heap[D + 1]? = some (L .busy none) ∧
    StopP w s g6 g7 D L (some x1) (((V.setCell ⟨g6, 0, none⟩ (.int .i64 (x1 : Int))).setCell ⟨g7, 0, none⟩ (.bool true)).putObj (D + 1) (L .done (some .ret))) := by
  have k : ∀ (W : World) (g i : Nat) (v : Value) (j : Nat), j ≠ g → (W.setCell ⟨g, i, none⟩ v).heap[j]? = W.heap[j]? := fun W g i v j hj => Below.heap_setCell W ⟨g, i, none⟩ v j hj
  have a1 := heap_setCell_same (i := 0) (.int .i64 (x1 : Int)) h6
  have b1 := (k _ g6 0 (.int .i64 (x1 : Int)) g7 (by omega)).trans h7
  have b2 := heap_setCell_same (i := 0) (.bool true) b1
  have a3 := (k _ g7 0 (.bool true) g6 (by omega)).trans a1
  have m1 := (k _ g7 0 (.bool true) D (by omega)).trans ((k _ g6 0 (.int .i64 (x1 : Int)) D (by omega)).trans hm)
  have l1 := (k _ g7 0 (.bool true) (D + 1) (by omega)).trans ((k _ g6 0 (.int .i64 (x1 : Int)) (D + 1) (by omega)).trans hl)
  have hb1 := (hb.setCell (p := ⟨g6, 0, none⟩) hs6 (.int .i64 (x1 : Int))).setCell (p := ⟨g7, 0, none⟩) (by show s ≤ g7; omega) (.bool true)
  refine ⟨l1, x1, rfl, below_putObj hb1 _ l1 (by omega), ?_, ?_, ?_, ?_, ?_⟩
  · rw [putObj_size]; have := block_lt l1; omega
  · exact (World.putObj_heap_other (by omega)).trans a3
  · exact (World.putObj_heap_other (by omega)).trans b2
  · exact (World.putObj_heap_other (by omega)).trans m1
  · exact World.putObj_heap_same (block_lt l1)

set_option maxHeartbeats 1000000 in
theorem next_wrong2 {w : World} {n : Int} {a : Option Addr} {cap : Nat} {ws : List Nat} (hv : WordsV w (.slice a ws.length cap) ws) (hr : rightB n ws = false) (x : Int) (on : Bool) :
    Calls Tryd.prog 17 #[.agg #[.int .i64 n, .slice a ws.length cap], .int .i64 x, .bool on] w fun r w' => r = .returned (.tuple #[.int .i64 0, .bool false]) ∧ Below w.heap.size w w' := by
  obtain ⟨w1, hw1, a0, a1, a2, a3, a4⟩ := allocs3 w (.cells #[.int .i64 n, .slice a ws.length cap] 24) (.cells #[.int .i64 0] 3) (.cells #[.bool false] 4)
  have R := right_any2 (n := n) (hv.below a0)
  rw [hr] at R
  have c0 := cells_cell (i := 0) a2 (v := .int .i64 n) rfl
  have c1 := cells_cell (i := 1) a2 (v := .slice a ws.length cap) rfl
  have H1 := Lib.hid hw1
  clear hr hw1 hv a1 a2
  refine calls_of_wp_marks Tryd.func17 rfl ?_
  simp only [Tryd.ntmps17, List.size_toArray, List.length_cons, List.length_nil, Nat.reduceAdd, Nat.reduceSub, Array.replicate_succ, Array.replicate_zero, List.push_toArray, List.append_toArray, List.nil_append, List.cons_append]
  go_wp2_with fail
  rw [H1.out]
  refine R.mono ?_
  rintro r w3 ⟨rfl, hb3⟩
  have b6 := (hb3.block _ (block_lt a3)).trans a3
  have b7 := (hb3.block _ (block_lt a4)).trans a4
  have d0 := cells_cell (i := 0) b6 (v := .int .i64 0) rfl
  have d1 := cells_free (i := 0) b6
  have d2 := cells_cell (i := 0) b7 (v := .bool false) rfl
  have d3 := cells_free (i := 0) b7
  have k : ∀ (W : World) (g i : Nat) (v : Value) (j : Nat), j ≠ g → (W.setCell ⟨g, i, none⟩ v).heap[j]? = W.heap[j]? := fun W g i v j hj => Below.heap_setCell W ⟨g, i, none⟩ v j hj
  have e6 := (k _ (w.heap.size + 1 + 1) 0 (.bool false) (w.heap.size + 1) (by omega)).trans (heap_setCell_same (i := 0) (.int .i64 0) b6)
  have e7 := heap_setCell_same (i := 0) (.bool false) ((k _ (w.heap.size + 1) 0 (.int .i64 0) (w.heap.size + 1 + 1) (by omega)).trans b7)
  have hb := ((a0.trans (hb3.mono a0.size)).setCell (p := ⟨w.heap.size + 1, 0, none⟩) (by show w.heap.size ≤ w.heap.size + 1; omega) (.int .i64 0)).setCell (p := ⟨w.heap.size + 1 + 1, 0, none⟩) (by show w.heap.size ≤ w.heap.size + 1 + 1; omega) (.bool false)
  have E6 := Lib.hid e6
  have E7 := Lib.hid e7
  have HB := Lib.hid hb
  clear R c0 c1 b6 b7 e6 e7 hb k hb3 a0 a3 a4 H1
  go_wp2
  exact bodyPostR_ret0 (results_int_bool rfl _ _ (w.heap.size + 1) (w.heap.size + 1 + 1) 0 false rfl rfl E6.out E7.out) ⟨rfl, HB.out⟩

set_option maxHeartbeats 2000000 in
set_option maxRecDepth 20000 in
theorem next_right {w : World} {N : Nat} {a : Option Addr} {cap : Nat} {ws : List Nat} (hv : WordsV w (.slice a ws.length cap) ws) (hr : rightB (N : Int) ws = true) (hN2 : N ≤ 20000) (hN : N ≤ 32 * ws.length) (x : Int) (on : Bool) :
    Calls Tryd.prog 17 #[.agg #[.int .i64 (N : Int), .slice a ws.length cap], .int .i64 x, .bool on] w fun r w' => r = .returned (optP (placesL ws N x on).head?) ∧ Below w.heap.size w w' := by
  obtain ⟨w1, hw1, a0, a1, a2, a3, a4⟩ := allocs3 w (.cells #[.int .i64 (N : Int), .slice a ws.length cap] 24) (.cells #[.int .i64 0] 3) (.cells #[.bool false] 4)
  have R := right_any2 (n := (N : Int)) (hv.below a0)
  rw [hr] at R
  have c0 := cells_cell (i := 0) a2 (v := .int .i64 (N : Int)) rfl
  have c1 := cells_cell (i := 1) a2 (v := .slice a ws.length cap) rfl
  have H1 := Lib.hid hw1
  have HV := Lib.hid (hv.below a0)
  have HA1 := Lib.hid a1
  clear hr hw1 hv a1
  refine calls_of_wp_marks Tryd.func17 rfl ?_
  simp only [Tryd.ntmps17, List.size_toArray, List.length_cons, List.length_nil, Nat.reduceAdd, Nat.reduceSub, Array.replicate_succ, Array.replicate_zero, List.push_toArray, List.append_toArray, List.nil_append, List.cons_append]
  go_wp2_with fail
  rw [H1.out]
  refine R.mono ?_
  rintro r w3 ⟨rfl, hb3⟩
  have hv3 := HV.out.below hb3
  have b5 := (hb3.block _ (block_lt a2)).trans a2
  have b6 := (hb3.block _ (block_lt a3)).trans a3
  have b7 := (hb3.block _ (block_lt a4)).trans a4
  have d0 := cells_cell (i := 0) b5 (v := .int .i64 (N : Int)) rfl
  have d1 := cells_cell (i := 1) b5 (v := .slice a ws.length cap) rfl
  obtain ⟨W0, hW0, e0, e1, e2, e3, e4⟩ := allocs3 w3 (.cells #[.int .i64 (N : Int), .slice a ws.length cap] 24) (.cells #[.int .i64 x] 3) (.cells #[.bool on] 4)
  have hPl := places_any (N : Int) x (.slice a ws.length cap) on w3
  have hG := places1_gives (w := W0) (S := fun _ => False) e2 (cells_cell (i := 0) e3 (v := .int .i64 x) rfl) (cells_cell (i := 0) e4 (v := .bool on) rfl) (hv3.below e0) hN hN2 (fun k hk => hk.elim)
  have hl7 := block_lt b7
  have hsz3 : w3.heap.size ≤ W0.heap.size := e0.size
  have f6 := (e0.block _ (by omega)).trans b6
  have f7 := (e0.block _ hl7).trans b7
  have bw : Below w.heap.size w W0 := (a0.trans (hb3.mono a0.size)).trans (e0.mono (by have := a0.size; have := hb3.size; omega))
  have E1 := Lib.hid e1
  clear R c0 c1 a0 a2 a3 a4 b5 b6 b7 hv3 hb3 e0 e1 e2 e3 e4 HV H1 HA1
  go_wp2_with (go_at_call 39; refine hPl.mono ?_; rintro r w4 ⟨rfl, rfl⟩)
  try rw [hW0]
  clear hW0 hPl d0 d1
  refine rf_wp (gf := 47) (lb := #[.pointer (some ⟨w3.heap.size, 0, none⟩), .pointer (some ⟨w3.heap.size + 1, 0, none⟩), .pointer (some ⟨w3.heap.size + 1 + 1, 0, none⟩)]) rfl (enters_of Tryd.func47 (by kernel_rfl) rfl) ?_
  intro D L W1 hD hRf hB1 hsz hK hL
  have hS1 : Sam (fun _ => False) W0 W1 := (Sam.refl _ W0).below hB1
  have hD0 : w.heap.size + 1 + 1 < D := by omega
  have g6 := (hB1.block _ (by omega)).trans f6
  have g7 := (hB1.block _ (by omega)).trans f7
  have bw1 : Below w.heap.size w W1 := bw.trans (hB1.mono bw.size)
  have hD1 : D + 1 < W1.heap.size := by omega
  clear hD hsz f6 f7 bw E1
  refine (hG (D + 1) (fun pre W => pre = [] ∧ Below W1.heap.size W1 W) (StopP w w.heap.size (w.heap.size + 1) (w.heap.size + 1 + 1) D L (placesL ws N x on).head?) W1 hS1 (fun _ _ _ h hb => ⟨h.1, h.2.trans (hb.mono h.2.size)⟩) (fun _ _ h hb => h.next hb) ?_ ⟨rfl, Below.refl _ _⟩).mono ?_
  · intro pre y post W hxs ⟨hpre, hC⟩ _
    subst hpre
    refine (?_ : YieldAt Fence.wide 8 _ _ _ W fun e W' => e = .returned (.bool false) ∧ StopP w w.heap.size (w.heap.size + 1) (w.heap.size + 1 + 1) D L (placesL ws N x on).head? W').mono fun e W' h => .inr h
    have hx : (placesL ws N x on).head? = some y := by rw [hxs]; rfl
    rw [hx]
    clear hxs hG hx hS1
    have sl := (hC.block _ (by omega)).trans hL
    have sm := (hC.block _ (by omega)).trans hK
    have s6 := (hC.block _ (by omega)).trans g6
    have s7 := (hC.block _ (by omega)).trans g7
    have hb1 := bw1.trans (hC.mono bw1.size)
    refine hRf.round _ _ _ rfl sl ?_
    gi_wp2
    refine ⟨sl, ?_⟩
    have hb2 : Below w.heap.size w (W.putObj (D + 1) (L .busy none)) := below_putObj hb1 _ sl (by omega)
    have w6 := (World.putObj_heap_other (o := L .busy none) (show w.heap.size + 1 ≠ D + 1 by omega)).trans s6
    have w7 := (World.putObj_heap_other (o := L .busy none) (show w.heap.size + 1 + 1 ≠ D + 1 by omega)).trans s7
    have wm := (World.putObj_heap_other (o := L .busy none) (show D ≠ D + 1 by omega)).trans sm
    have wl : (W.putObj (D + 1) (L .busy none)).heap[D + 1]? = some (L .busy none) := World.putObj_heap_same (block_lt sl)
    generalize W.putObj (D + 1) (L .busy none) = V2 at *
    have p0 := cells_cell (i := 0) w6 (v := .int .i64 0) rfl
    have p2 := cells_free (i := 0) w6
    have q0 := cells_cell (i := 0) w7 (v := .bool false) rfl
    have q1 := cells_free (i := 0) w7
    have hs := stopP_set (x1 := y) w6 w7 wm wl hb2 (by omega) (by omega) (by omega)
    have HS := Lib.hid hs
    clear hs s6 s7 sl sm w6 w7 wm wl hb2 hb1 hC g6 g7 bw1 hK hL hB1
    gi_wp2
    exact ⟨HS.out.1, rfl, HS.out.2⟩
  · rintro e W ⟨hv, (⟨hpre, hC⟩ | hF)⟩
    · have rm := (hC.block _ (by omega)).trans hK
      have rl := (hC.block _ (by omega)).trans hL
      have r6 := (hC.block _ (by omega)).trans g6
      have r7 := (hC.block _ (by omega)).trans g7
      have HP := Lib.hid hpre
      have hb1 := below_putObj (bw1.trans (hC.mono bw1.size)) (L .exhausted none) rl (by omega)
      refine ⟨hv, rm, .inl ⟨rl, ?_⟩⟩
      have w6 := (World.putObj_heap_other (o := L .exhausted none) (show w.heap.size + 1 ≠ D + 1 by omega)).trans r6
      have w7 := (World.putObj_heap_other (o := L .exhausted none) (show w.heap.size + 1 + 1 ≠ D + 1 by omega)).trans r7
      have wm := (World.putObj_heap_other (o := L .exhausted none) (show D ≠ D + 1 by omega)).trans rm
      generalize W.putObj (D + 1) (L .exhausted none) = V2 at *
      have k : ∀ (W : World) (g i : Nat) (v : Value) (j : Nat), j ≠ g → (W.setCell ⟨g, i, none⟩ v).heap[j]? = W.heap[j]? := fun W g i v j hj => Below.heap_setCell W ⟨g, i, none⟩ v j hj
      have e6 := (k _ (w.heap.size + 1 + 1) 0 (.bool false) (w.heap.size + 1) (by omega)).trans (heap_setCell_same (i := 0) (.int .i64 0) w6)
      have e7 := heap_setCell_same (i := 0) (.bool false) ((k _ (w.heap.size + 1) 0 (.int .i64 0) (w.heap.size + 1 + 1) (by omega)).trans w7)
      have em := (k _ (w.heap.size + 1 + 1) 0 (.bool false) D (by omega)).trans ((k _ (w.heap.size + 1) 0 (.int .i64 0) D (by omega)).trans wm)
      have hb := (hb1.setCell (p := ⟨w.heap.size + 1, 0, none⟩) (by show w.heap.size ≤ w.heap.size + 1; omega) (.int .i64 0)).setCell (p := ⟨w.heap.size + 1 + 1, 0, none⟩) (by show w.heap.size ≤ w.heap.size + 1 + 1; omega) (.bool false)
      have d0 := cells_cell (i := 0) w6 (v := .int .i64 0) rfl
      have d1 := cells_free (i := 0) w6
      have d2 := cells_cell (i := 0) w7 (v := .bool false) rfl
      have d3 := cells_free (i := 0) w7
      have E6 := Lib.hid e6
      have E7 := Lib.hid e7
      have EM := Lib.hid em
      have HB := Lib.hid hb
      clear w6 w7 wm e6 e7 em hb k rm rl r6 r7 hb1 hC hpre hG hS1 hK hL hB1 g6 g7 bw1
      go_wp2
      refine bodyPostR_ret (D := D) EM.out (results_int_bool rfl _ _ (w.heap.size + 1) (w.heap.size + 1 + 1) 0 false rfl rfl ((World.putObj_heap_other (by omega)).trans E6.out) ((World.putObj_heap_other (by omega)).trans E7.out)) ⟨by rw [HP.out]; rfl, below_putObj HB.out _ EM.out (by omega)⟩
    · obtain ⟨y, ho, h1, h2, h3, h4, h5, h6⟩ := hF
      refine ⟨hv, h5, .inr ⟨_, h6, ?_⟩⟩
      have HO := Lib.hid ho
      have e5 := (World.putObj_heap_other (o := L .exhausted (some .ret)) (show D ≠ D + 1 by omega)).trans h5
      have e3 := (World.putObj_heap_other (o := L .exhausted (some .ret)) (show w.heap.size + 1 ≠ D + 1 by omega)).trans h3
      have e4 := (World.putObj_heap_other (o := L .exhausted (some .ret)) (show w.heap.size + 1 + 1 ≠ D + 1 by omega)).trans h4
      have eb := below_putObj h1 (L .exhausted (some .ret)) h6 (by omega)
      clear h1 h2 h3 h4 h5 h6 ho hG hS1 hK hL hB1 g6 g7 bw1
      go_wp2
      exact bodyPostR_ret (D := D) e5 (results_int_bool rfl _ _ (w.heap.size + 1) (w.heap.size + 1 + 1) y true rfl rfl ((World.putObj_heap_other (by omega)).trans e3) ((World.putObj_heap_other (by omega)).trans e4)) ⟨by rw [HO.out]; rfl, below_putObj eb _ e5 (by omega)⟩

theorem next_any2 {w : World} {n : Int} {v : Value} {ws : List Nat} (hv : WordsV w v ws) (x : Int) (on : Bool) :
    Calls Tryd.prog 17 #[.agg #[.int .i64 n, v], .int .i64 x, .bool on] w fun r w' => r = .returned (optP (nextI n ws x on)) ∧ Below w.heap.size w w' := by
  obtain ⟨a, cap, rfl⟩ := hv.slice
  unfold nextI
  cases hr : rightB n ws with
  | false => exact next_wrong2 hv hr x on
  | true =>
    obtain ⟨N, rfl, h1, h2, h3⟩ := rightB_iff hr
    rw [Int.toNat_natCast]
    exact next_right hv hr h1 (by omega) x on
end Go.Proofs.YtlncilcoohmlkaaDoor

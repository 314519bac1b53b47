/- Layer arena: Count. -/
import Derived.Test.YtjoghbpekpgkpaaDoorN7
namespace Go.Proofs.YtjoghbpekpgkpaaDoor
open Go Go.RowKit Go.Shelf
attribute [local go_sem ↓] Go.wp_at_zero Go.wp_at_succ
attribute [local go_sem] Oper.semAt_some
attribute [local go_sem ↓] run_max_int run_min_int

/-- How many of the first k bytes are not 0. -/
def cntP (f : Nat → Nat) : Nat → Nat
  | 0 => 0
  | k + 1 => cntP f k + min (f k) 1
theorem cntP_le (f : Nat → Nat) : ∀ k, cntP f k ≤ k
  | 0 => Nat.le_refl _
  | k + 1 => by have := cntP_le f k; rw [cntP]; omega

/-- What Count's loop keeps. -/
structure CountJ (w : World) (p g n : Nat) (f : Nat → Nat) (D X : Nat) (o : Obj) (k : Nat) (W : World) : Prop where
  below : Below w.heap.size w W
  arena : ArenaV W p g n f
  box : W.heap[X]? = some (.cells #[.int .i64 ((cntP f k : Nat) : Int)] 3 (0, 0))
  marks : W.heap[D]? = some (.deferred (some []))
  loop : W.heap[D + 1]? = some o
theorem CountJ.next {w : World} {p g n : Nat} {f : Nat → Nat} {D X : Nat} {o : Obj} {k : Nat} {W W' : World} (h : CountJ w p g n f D X o k W) (hb : Below W.heap.size W W') : CountJ w p g n f D X o k W' :=
  ⟨blN h.below hb, h.arena.next hb, (hb.block _ (block_lt h.box)).trans h.box, (hb.block _ (block_lt h.marks)).trans h.marks, (hb.block _ (block_lt h.loop)).trans h.loop⟩
theorem CountJ.put {w : World} {p g n : Nat} {f : Nat → Nat} {D X : Nat} {o : Obj} {k : Nat} {W : World} (h : CountJ w p g n f D X o k W) (hno : o.isCells = false) (o' : Obj) (hX : X ≤ D) (hw : w.heap.size ≤ D) : CountJ w p g n f D X o' k (W.putObj (D + 1) o') := by
  have hp : p ≠ D + 1 := by
    rintro rfl
    have := h.loop.symm.trans h.arena.box
    obtain rfl := Option.some.inj this
    simp [Obj.isCells] at hno
  have hg : g ≠ D + 1 := by
    rintro rfl
    obtain ⟨cur, h1, _⟩ := h.arena.arr.ex
    have := h.loop.symm.trans h1
    obtain rfl := Option.some.inj this
    simp [Obj.isCells] at hno
  exact ⟨below_putObj h.below o' h.loop (by omega), ⟨(World.putObj_heap_other hp).trans h.arena.box, h.arena.arr.same (World.putObj_heap_other hg), h.arena.ne⟩,
    (World.putObj_heap_other (by omega)).trans h.box, (World.putObj_heap_other (by omega)).trans h.marks, World.putObj_heap_same (block_lt h.loop)⟩
theorem CountJ.step {w : World} {p g n : Nat} {f : Nat → Nat} {D X : Nat} {o : Obj} {k : Nat} {W : World} (h : CountJ w p g n f D X o k W) (hX : X < D) (hw : w.heap.size ≤ X) (hpX : p ≠ X) (hgX : g ≠ X) : CountJ w p g n f D X o (k + 1) (W.setCell ⟨X, 0, none⟩ (.int .i64 ((cntP f (k + 1) : Nat) : Int))) :=
  ⟨h.below.setCell (p := ⟨X, 0, none⟩) hw _, ⟨(Below.heap_setCell _ _ _ _ hpX).trans h.arena.box, h.arena.arr.same (Below.heap_setCell _ _ _ _ hgX), h.arena.ne⟩,
    heap_setCell_same (i := 0) _ h.box, (Below.heap_setCell _ _ _ _ (by show D ≠ X; omega)).trans h.marks, (Below.heap_setCell _ _ _ _ (by show D + 1 ≠ X; omega)).trans h.loop⟩

theorem add_min {y x s : Nat} (hy : y ≤ 1000000) (hs : y + min x 1 = s) : IntKind.i64.wrap ((y : Int) + min (x : Int) 1) = (s : Int) := by
  rw [IntWalk.i64_in _ (by omega)]
  omega

set_option maxHeartbeats 2000000 in
set_option maxRecDepth 20000 in
theorem count_N {w : World} {p g n : Nat} {f : Nat → Nat} (hA : ArenaV w p g n f) :
    Calls Tryd.prog 15 #[.pointer (some ⟨p, 0, none⟩)] w fun r w' => r = .returned (.int .i64 ((cntP f n : Nat) : Int)) ∧ Below w.heap.size w w' := by
  obtain ⟨w1, hw1, a0, a1, a2⟩ := allocs1 w (.cells #[.int .i64 0] 3)
  have hA1 := hA.next a0
  have hmx := hA.arr.mx
  have hNp : p ≠ w.heap.size ∧ g ≠ w.heap.size := by have := block_lt hA.box; have := hA.arr.lt; omega
  have HW1 := Lib.hid hw1
  have c0 := hA1.cell
  clear hA hw1
  refine calls_of_wp_marks Tryd.func15 rfl ?_
  simp only [Tryd.ntmps15, List.size_toArray, List.length_cons, List.length_nil, Nat.reduceAdd, Nat.reduceSub, Array.replicate_succ, Array.replicate_zero, List.push_toArray, List.append_toArray, List.nil_append, List.cons_append]
  go_wp2_with fail
  rw [HW1.out]
  go_wp2_with fail
  refine wp_region_still_tail 9 (by kernel_rfl) (by kernel_rfl) ?_
  simp only [List.take_succ_cons, List.take_zero, List.drop_succ_cons, List.drop_zero]
  repeat still_step
  refine wpStill_nil ?_
  change wpList _ _ _ _ _ w1.drew
  have hBd : Below w1.heap.size w1 w1.drew := (Below.refl _ _).drew
  generalize w1.drew = w2 at *
  have z2 := Lib.hid ((hBd.block _ (block_lt a2)).trans a2)
  have hA2 := hA1.next hBd
  have hB2 := blN a0 hBd
  have hs2 : w.heap.size < w2.heap.size := by have := hBd.size; omega
  obtain ⟨w3, hw3, e0, e1, e2, e3, e4⟩ := allocs3 w2 (.cells #[.pointer (some ⟨p, 0, none⟩)] 79) (.cells #[.int .i64 0] 3) (.cells #[.int .i64 (n : Int)] 3)
  have EA := each_any p 0 (n : Int) w2
  rw [hw3] at EA
  clear c0 hBd a0 a1 HW1 hA1 a2
  have D2 := Lib.hid e2
  have D3 := Lib.hid e3
  have D4 := Lib.hid e4
  have HA2 := Lib.hid hA2
  clear e2 e3 e4 hA2
  go_wp2_with fail
  refine EA.mono ?_
  rintro r w' ⟨rfl, rfl⟩
  clear EA
  go_wp2
  refine rf_wp (gf := 42) (lb := #[.pointer (some ⟨w2.heap.size, 0, none⟩), .pointer (some ⟨w2.heap.size + 1, 0, none⟩), .pointer (some ⟨w2.heap.size + 1 + 1, 0, none⟩)]) rfl (enters_of Tryd.func42 (by kernel_rfl) rfl) ?_
  intro D L W1 hD hRf hB1 hsz hK hL
  have hwD : w.heap.size < D := by omega
  have hB3 := blN hB2 e0
  have hb1 := blN hB3 hB1
  have h0 : CountJ w p g n f D w.heap.size (L .ready none) 0 W1 :=
    ⟨hb1, (HA2.out.next e0).next hB1, (hB1.block _ (by omega)).trans ((e0.block _ (by omega)).trans z2.out), hK, hL⟩
  clear hD hsz e0 e1
  have hGv := each1_gives (w := W1) (s0 := w2.heap.size) (s1 := w2.heap.size + 1) (s2 := w2.heap.size + 1 + 1) (p := p) (g := g) (n := n) (A := 0) (K := n)
    (cells_cell (i := 0) ((hB1.block _ (block_lt D2.out)).trans D2.out) rfl) (cells_cell (i := 0) ((hB1.block _ (block_lt D3.out)).trans D3.out) rfl) (cells_cell (i := 0) ((hB1.block _ (block_lt D4.out)).trans D4.out) rfl)
    h0.arena.cell (by omega) hmx (D + 1) (CountJ w p g n f D w.heap.size (L .ready none))
  refine (hGv ?_ (fun _ _ _ h hb => h.next hb) h0).mono ?_
  · intro i W2 hi4 hj
    rw [Nat.zero_add]
    refine ⟨f i, hj.arena.arr.cell _ (by omega), ?_⟩
    refine hRf.round _ _ _ rfl hj.loop ?_
    gi_wp2
    refine ⟨hj.loop, ?_⟩
    have hC2 : CountJ w p g n f D w.heap.size (L .busy none) i (W2.putObj (D + 1) (L .busy none)) := hj.put (hRf.cells _ _) (L .busy none) (Nat.le_of_lt hwD) (Nat.le_of_lt hwD)
    clear hj
    generalize W2.putObj (D + 1) (L .busy none) = W3 at *
    have c1 := cells_cell (i := 0) hC2.box rfl
    have c2 := cells_free (i := 0) hC2.box
    have hx := hC2.arena.arr.by8 i
    have hle := cntP_le f i
    have hst := hC2.step hwD (Nat.le_refl _) hNp.1 hNp.2
    generalize hs : cntP f (i + 1) = s at *
    rw [cntP] at hs
    generalize cntP f i = y at *
    generalize f i = x at *
    have wx : IntKind.i64.wrap (x : Int) = (x : Int) := IntWalk.i64_in _ (by omega)
    have wa := add_min (by omega) hs
    have HS := Lib.hid hst
    clear hGv h0 hB1 hK hL hb1 hC2 hst hs hle hx
    gi_wp2
    exact ⟨HS.out.loop, rfl, HS.out.put (hRf.cells _ _) (L .ready none) (Nat.le_of_lt hwD) (Nat.le_of_lt hwD)⟩
  · rintro r W ⟨hv, hC⟩
    refine ⟨hv, hC.marks, .inl ⟨hC.loop, ?_⟩⟩
    have hC2 : CountJ w p g n f D w.heap.size (L .exhausted none) n (W.putObj (D + 1) (L .exhausted none)) := hC.put (hRf.cells _ _) (L .exhausted none) (Nat.le_of_lt hwD) (Nat.le_of_lt hwD)
    clear hC h0 hGv hB1 hK hL
    generalize W.putObj (D + 1) (L .exhausted none) = W2 at *
    have HC := Lib.hid hC2
    have c1 := cells_cell (i := 0) hC2.box rfl
    clear hC2
    go_wp2
    exact bodyPostR_ret (D := D) HC.out.marks (results_tmp rfl _ _ _) ⟨rfl, below_putObj HC.out.below _ HC.out.marks (Nat.le_of_lt hwD)⟩
end Go.Proofs.YtjoghbpekpgkpaaDoor

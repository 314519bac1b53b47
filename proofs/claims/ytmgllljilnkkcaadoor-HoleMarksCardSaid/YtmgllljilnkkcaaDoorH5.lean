/- Layer hole: the longest hole of a table. -/
import Derived.Test.YtmgllljilnkkcaaDoorH4
namespace Go.Proofs.YtmgllljilnkkcaaDoor
open Go Go.RowKit Go.Shelf
attribute [local go_sem ↓] Go.wp_at_zero Go.wp_at_succ
attribute [local go_sem] Oper.semAt_some
attribute [local go_sem ↓] run_max_int run_min_int

def longH (l : List (Nat × Nat)) : Int := l.foldl (fun n h => max n ((h.2 : Int) - h.1)) 0
theorem longH_snoc (l : List (Nat × Nat)) (h : Nat × Nat) : longH (l ++ [h]) = max (longH l) ((h.2 : Int) - h.1) := by
  unfold longH; rw [List.foldl_append]; rfl

set_option maxHeartbeats 1000000 in
set_option maxRecDepth 20000 in
theorem long_right {w : World} {a : Option Addr} {cap : Nat} {l : List Int} (hv : IntsV w (.slice a l.length cap) l) (hr : rightT l = true) :
    Calls Tryd.prog 14 #[.slice a l.length cap] w fun r w' => r = .returned (.int .i64 (longH (holesT l))) ∧ Below w.heap.size w w' := by
  obtain ⟨WA, hWA, a0, a1, a2⟩ := allocs1 w (.cells #[.int .i64 0] 3)
  have O := open_any (hv.below a0)
  rw [hr] at O
  obtain ⟨W1, hW1, e0, e1', e2'⟩ := allocs1 WA.drew (.cells #[.slice a l.length l.length, .bool true] 62)
  have e1 : W1.heap.size = WA.heap.size + 1 := e1'
  have e2 : W1.heap[WA.heap.size]? = some (.cells #[.slice a l.length l.length, .bool true] 62 (0, 0)) := e2'
  have eb : Below WA.heap.size WA W1 := (Below.refl _ WA).drew.trans e0
  have hv1 := ((hv.below a0).cut).below eb
  obtain ⟨W0, hW0, f0, f1, f3, f4⟩ := allocs2 W1 (.cells #[.pointer (some ⟨WA.heap.size, 0, none⟩)] 53) (.cells #[.int .i64 0] 3)
  have g3 := cells_cell (i := 0) f3 (v := .pointer (some ⟨WA.heap.size, 0, none⟩)) rfl
  have g4 := cells_cell (i := 0) f4 (v := .int .i64 0) rfl
  have hG := holes1_gives (F0 := fun j => j < W0.heap.size ∧ j ≠ w.heap.size) g3 g4 ((f0.block _ (block_lt e2)).trans e2) (hv1.below f0) 0 rfl
  have hHo := holes_any WA.heap.size 0 W1
  have bx : W0.heap[w.heap.size]? = some (.cells #[.int .i64 0] 3 (0, 0)) := (f0.block _ (by omega)).trans ((eb.block _ (by omega)).trans a2)
  have bb : Below w.heap.size w W0 := (a0.trans (eb.mono a0.size)).trans (f0.mono (by have := a0.size; omega))
  have hw0 : w.heap.size + 1 ≤ W0.heap.size := by omega
  have HWA := Lib.hid hWA
  clear hr hv e0 e1' e1 e2' g3 g4 f3 f4 hv1 e2 a0 a1 a2 eb f0 f1 hWA
  refine calls_of_wp_marks Tryd.func14 rfl ?_
  simp only [Tryd.ntmps14, List.size_toArray, List.length_cons, List.length_nil, Nat.reduceAdd, Nat.reduceSub, Array.replicate_succ, Array.replicate_zero, List.push_toArray, List.append_toArray, List.nil_append, List.cons_append]
  go_wp2_with fail
  rw [HWA.out]
  refine O.mono ?_
  rintro r W1' ⟨rfl, hw1⟩
  rw [hW1] at hw1
  subst hw1
  clear O hW1
  go_wp2_with (go_at_call 22; refine hHo.mono ?_; rintro r w' ⟨rfl, rfl⟩)
  try rw [hW0]
  clear hW0 hHo HWA
  refine rf_wp (gf := 31) (lb := #[.pointer (some ⟨W1'.heap.size, 0, none⟩), .pointer (some ⟨W1'.heap.size + 1, 0, none⟩)]) rfl (enters_of Tryd.func31 (by kernel_rfl) rfl) ?_
  intro D L W2 hD hRf hB2 hsz hK hL
  have h0 : BoxF w w.heap.size D (L .ready none) 3 (.int .i64 (longH [])) (fun j => j < W0.heap.size ∧ j ≠ w.heap.size) W2 :=
    ⟨bb.trans (hB2.mono bb.size), by omega, by omega, (hB2.block _ (by omega)).trans bx, hK, hL, fun j hj => ⟨by omega, hj.2, by omega, by omega⟩⟩
  have hle : w.heap.size ≤ W0.heap.size := by omega
  clear hD hsz bx bb
  refine (hG (D + 1) (fun pre F W => BoxF w w.heap.size D (L .ready none) 3 (.int .i64 (longH pre)) F W) (fun _ => False) W2 hB2 h0 (fun _ _ _ _ h hb => h.next hb) (fun _ _ _ b i u h hF hle' => h.set b i u hF (by omega)) (fun _ _ _ _ h hs => h.sub hs) (fun _ _ h _ => h.elim) ?_).mono ?_
  · intro pre x post F W hxs hC
    refine (?_ : YieldAt Fence.wide 8 _ _ _ W fun e W' => e = .returned (.bool true) ∧ BoxF w w.heap.size D (L .ready none) 3 (.int .i64 (longH (pre ++ [x]))) F W' ∧ ∀ k, F k → W'.heap[k]? = W.heap[k]?).mono fun e W' h => .inl h
    have hmem := scanH_mem (keptB l) 0 0 (Nat.le_refl _)
    rw [hxs] at hmem
    have hx := hmem x (by simp)
    have hlen : pre.length < 33 := by
      have := scanH_len (keptB l) 0 0 (Nat.le_refl _)
      rw [hxs] at this
      simp at this
      omega
    rw [longH_snoc]
    clear hxs hG h0 hmem
    obtain ⟨x1, x2⟩ := x
    simp only at hx ⊢
    generalize longH pre = q at *
    change YieldAt Fence.wide 8 _ _ #[.agg #[.int .i64 (x1 : Int), .int .i64 (x2 : Int)]] W _
    obtain ⟨V0, hV0, u0, u1, u2⟩ := allocs1 W (.cells #[.int .i64 (x1 : Int), .int .i64 (x2 : Int)] 29)
    have hC0 := (hC.next u0).sub (F' := F) (fun j hj => .inl hj)
    refine hRf.round _ _ _ rfl hC.loop ?_
    gi_wp2
    refine ⟨hC0.loop, ?_⟩
    have hC2 := hC0.put (L .busy none)
    have hF2 : ∀ j, F j → (V0.putObj (D + 1) (L .busy none)).heap[j]? = W.heap[j]? := fun j hj => (World.putObj_heap_other (hC.fr j hj).2.2.2).trans (u0.block j (hC.fr j hj).1)
    have u3 : (V0.putObj (D + 1) (L .busy none)).heap[W.heap.size]? = some (.cells #[.int .i64 (x1 : Int), .int .i64 (x2 : Int)] 29 (0, 0)) := (World.putObj_heap_other (by have := block_lt hC.loop; omega)).trans u2
    generalize V0.putObj (D + 1) (L .busy none) = V2 at *
    have m0 := cells_cell (i := 0) u3 (v := .int .i64 (x1 : Int)) rfl
    have m1 := cells_cell (i := 1) u3 (v := .int .i64 (x2 : Int)) rfl
    have c1 := hC2.box.cell
    have c2 := hC2.box.frozen
    obtain ⟨hT, hFT⟩ := hC2.turn (.int .i64 (max q ((x2 : Int) - x1)))
    clear hV0 u2 u3 u1
    gi_wp2
    exact ⟨hT.loop, rfl, hT.put (L .ready none), fun j hj => (World.putObj_heap_other (hC.fr j hj).2.2.2).trans ((hFT j hj).trans (hF2 j hj))⟩
  · rintro e W ⟨hv, (⟨F, hC⟩ | hF)⟩
    · refine ⟨hv, hC.marks, .inl ⟨hC.loop, ?_⟩⟩
      have hC2 := hC.put (L .exhausted none)
      clear hC h0 hG
      generalize W.putObj (D + 1) (L .exhausted none) = V2 at *
      have c1 := hC2.box.cell
      change V2.cell? _ = some (.int .i64 (longH (holesT l))) at c1
      obtain ⟨z, hz⟩ : ∃ z, longH (holesT l) = z := ⟨_, rfl⟩
      rw [hz] at c1
      have HZ := Lib.hid hz
      clear hz
      go_wp2
      exact bodyPostR_ret (D := D) hC2.marks (results_tmp rfl _ _ _) ⟨by rw [HZ.out]; rfl, below_putObj hC2.below _ hC2.marks (by have := hC2.le; omega)⟩
    · exact hF.elim
end Go.Proofs.YtmgllljilnkkcaaDoor

/- Layer hole: all holes of a table. -/
import Derived.Test.YtmgllljilnkkcaaDoorH2
import Derived.Test.YtmgllljilnkkcaaDoorAp
namespace Go.Proofs.YtmgllljilnkkcaaDoor
open Go Go.RowKit Go.Shelf
attribute [local go_sem ↓] Go.wp_at_zero Go.wp_at_succ
attribute [local go_sem] Oper.semAt_some

/-- A list of holes as cells. -/
def cellsH (l : List (Nat × Nat)) : List Value := l.flatMap fun h => [.int .i64 h.1, .int .i64 h.2]
theorem cellsH_len (l : List (Nat × Nat)) : (cellsH l).length = l.length * 2 := by
  induction l with
  | nil => rfl
  | cons a l ih => unfold cellsH at *; rw [List.flatMap_cons, List.length_append, ih]; simp; omega
theorem cellsH_snoc (l : List (Nat × Nat)) (h : Nat × Nat) : cellsH (l ++ [h]) = cellsH l ++ [.int .i64 h.1, .int .i64 h.2] := by
  unfold cellsH; rw [List.flatMap_append]; rfl
theorem holeInfo : (Tryd.prog.info? 29).map (fun i => (i.zero, i.size, i.bytes)) = some (some (.agg #[.int .i64 0, .int .i64 0]), 2, 16) := by kernel_rfl

theorem scanH_len (K : Nat → Bool) (s k : Nat) (hs : s ≤ k) : (scanH K s k).length ≤ 33 - k := by
  induction hn : 33 - k generalizing s k with
  | zero => rw [scanH_end K s k (by omega)]; exact Nat.zero_le _
  | succ n ih =>
    cases hk : K k with
    | false => rw [scanH_free (by omega) hk]; exact Nat.le_trans (ih s (k + 1) (by omega) (by omega)) (by omega)
    | true =>
      by_cases e : s = k
      · subst e; rw [scanH_none (by omega) hk]; exact Nat.le_trans (ih (s + 1) (s + 1) (Nat.le_refl _) (by omega)) (by omega)
      · rw [scanH_some (by omega) hk e, List.length_cons]; have := ih (k + 1) (k + 1) (Nat.le_refl _) (by omega); omega

theorem cell_two_new (W : World) (x y : Value) (t : TypeId) : ∀ j u, [x, y][j]? = some u → (W.alloc (.cells #[x, y] t)).cell? ((⟨W.heap.size, 0, none⟩ : Addr).add j) = some u := by
  intro j u hj
  have hn := World.alloc_heap_new W (.cells #[x, y] t)
  rw [Addr.add_lit]
  refine cells_cell hn ?_
  rw [Nat.zero_add]
  simpa using hj

def holesT (l : List Int) : List (Nat × Nat) := scanH (keptB l) 0 0

set_option maxHeartbeats 1000000 in
set_option maxRecDepth 20000 in
theorem all_right {w : World} {a : Option Addr} {cap : Nat} {l : List Int} (hv : IntsV w (.slice a l.length cap) l) (hr : rightT l = true) :
    Calls Tryd.prog 10 #[.slice a l.length cap] w fun r w' => (∃ v, r = .returned (.tuple #[v, .int .i64 0]) ∧ w'.ownsRow w.heap.size 29 2 v (holesT l).length (cellsH (holesT l))) ∧ Below w.heap.size w w' := by
  obtain ⟨i0, hi, hz0, hz1, hz2⟩ := info_parts holeInfo
  have O := open_any hv
  rw [hr] at O
  obtain ⟨W1, hW1, e0, e1', e2'⟩ := allocs1 w.drew (.cells #[.slice a l.length l.length, .bool true] 62)
  have e1 : W1.heap.size = w.heap.size + 1 := e1'
  have e2 : W1.heap[w.heap.size]? = some (.cells #[.slice a l.length l.length, .bool true] 62 (0, 0)) := e2'
  have b1 := cells_cell (i := 1) e2 (v := .bool true) rfl
  have eb : Below w.heap.size w W1 := (Below.refl _ w).drew.trans e0
  have hv1 := hv.cut.below eb
  obtain ⟨W0, hW0, f0, f1, f2, f3, f4⟩ := allocs3 W1 (.cells #[.slice none 0 0] 35) (.cells #[.pointer (some ⟨w.heap.size, 0, none⟩)] 53) (.cells #[.int .i64 0] 3)
  have g3 := cells_cell (i := 0) f3 (v := .pointer (some ⟨w.heap.size, 0, none⟩)) rfl
  have g4 := cells_cell (i := 0) f4 (v := .int .i64 0) rfl
  have hG := holes1_gives (F0 := fun j => j < W0.heap.size ∧ j ≠ W1.heap.size) g3 g4 ((f0.block _ (block_lt e2)).trans e2) (hv1.below f0) 0 rfl
  have hHo := holes_any w.heap.size 0 (W1.alloc (.cells #[.slice none 0 0] 35))
  rw [World.size_alloc] at hHo
  have HE1 := Lib.hid e1
  clear hr hv e0 e1' e1 e2' g3 g4 f3 f4 hv1 e2
  refine calls_of_wp_marks Tryd.func10 rfl ?_
  simp only [Tryd.ntmps10, List.size_toArray, List.length_cons, List.length_nil, Nat.reduceAdd, Nat.reduceSub, Array.replicate_succ, Array.replicate_zero, List.push_toArray, List.append_toArray, List.nil_append, List.cons_append]
  go_wp2_with fail
  refine O.mono ?_
  rintro r W1' ⟨rfl, hw1⟩
  rw [hW1] at hw1
  subst hw1
  clear O hW1
  go_wp2_with (go_at_call 22; refine hHo.mono ?_; rintro r w' ⟨rfl, rfl⟩)
  try rw [hW0]
  clear hW0 hHo b1
  have e1 := HE1.out
  refine rf_wp (gf := 31) (lb := #[.pointer (some ⟨W1'.heap.size + 1, 0, none⟩), .pointer (some ⟨W1'.heap.size + 1 + 1, 0, none⟩)]) rfl (enters_of Tryd.func31 (by kernel_rfl) rfl) ?_
  intro D L W2 hD hRf hB2 hsz hK hL
  have h0 : ColF W1' W1'.heap.size D (L .ready none) 35 29 2 0 [] (fun j => j < W0.heap.size ∧ j ≠ W1'.heap.size) W2 := by
    have hbox : Boxed W2 W1'.heap.size 35 (.slice none 0 0) := (hB2.block _ (by omega)).trans f2
    refine ⟨⟨f0.trans (hB2.mono f0.size), by omega, by omega, ⟨_, hbox, World.ownsRow_nil _ _ _ _⟩, hK, hL⟩, fun j hj => ⟨by omega, hj.2, by omega, by omega, fun u hu => ?_⟩⟩
    obtain rfl := boxed_eq hu hbox
    simp [Value.ownBlock]
  have hle : W1'.heap.size + 1 ≤ D := by omega
  have hww : w.heap.size ≤ W1'.heap.size := by omega
  have hW01 : W1'.heap.size ≤ W0.heap.size := by omega
  clear e1 f1 hD hsz HE1
  refine (hG (D + 1) (fun pre F W => ColF W1' W1'.heap.size D (L .ready none) 35 29 2 pre.length (cellsH pre) F W) (fun _ => False) W2 hB2 h0 (fun _ _ _ _ h hb => h.next hb) (fun _ _ _ b i u h hF hle => h.set b i u hF (by omega)) (fun _ _ _ _ h hs => h.sub hs) (fun _ _ h _ => h.elim) ?_).mono ?_
  · intro pre x post F W hxs hC
    refine (?_ : YieldAt Fence.wide 8 _ _ _ W fun e W' => e = .returned (.bool true) ∧ ColF W1' W1'.heap.size D (L .ready none) 35 29 2 (pre ++ [x]).length (cellsH (pre ++ [x])) F W' ∧ ∀ k, F k → W'.heap[k]? = W.heap[k]?).mono fun e W' h => .inl h
    have hlen : pre.length < 33 := by
      have := scanH_len (keptB l) 0 0 (Nat.le_refl _)
      rw [hxs] at this
      simp at this
      omega
    clear hxs hG h0
    obtain ⟨x1, x2⟩ := x
    change YieldAt Fence.wide 8 _ _ #[.agg #[.int .i64 (x1 : Int), .int .i64 (x2 : Int)]] W _
    obtain ⟨V0, hV0, u0, u1, u2⟩ := allocs1 W (.cells #[.int .i64 (x1 : Int), .int .i64 (x2 : Int)] 29)
    have hC0 := (hC.next u0).sub (F' := F) (fun j hj => .inl hj)
    refine hRf.round _ _ _ rfl hC.col.loop ?_
    gi_wp2
    refine ⟨hC0.col.loop, ?_⟩
    have hC2 := hC0.put (hRf.cells _ _) (L .busy none)
    have hF2 : ∀ j, F j → (V0.putObj (D + 1) (L .busy none)).heap[j]? = W.heap[j]? := fun j hj => (World.putObj_heap_other (hC.fr j hj).2.2.2.1).trans (u0.block j (hC.fr j hj).1)
    have u3 : (V0.putObj (D + 1) (L .busy none)).heap[W.heap.size]? = some (.cells #[.int .i64 (x1 : Int), .int .i64 (x2 : Int)] 29 (0, 0)) := (World.putObj_heap_other (by have := block_lt hC.col.loop; omega)).trans u2
    generalize V0.putObj (D + 1) (L .busy none) = V2 at *
    have m0 := cells_cell (i := 0) u3 (v := .int .i64 (x1 : Int)) rfl
    have m1 := cells_cell (i := 1) u3 (v := .int .i64 (x2 : Int)) rfl
    clear hV0 u2 u3
    obtain ⟨v, hv, hrow⟩ := hC2.col.box
    have c1 := hv.cell
    gi_wp2_with (gi_at_builtin; refine wpListIn_append_where _ rfl _ _ 35 rfl D 29 i0 (.agg #[.int .i64 0, .int .i64 0]) 2 16 Tryd.underlying35 hi hz0 hz1 hz2 rfl (by decide) _ _ _ rfl (hrow.alloc _) ⟨V2.heap.size, 0, none⟩ 1 1 [.int .i64 (x1 : Int), .int .i64 (x2 : Int)] rfl rfl (cell_two_new _ _ _ _) (by simp [Value.oneCell']) (by decide) (by unfold maxLen; omega) (by omega) (by have := hC2.col.base; have := block_lt hC2.col.marks; simp; omega) ?_; intro v' w1 hown' hgrow hwh; obtain ⟨g', cap', rfl⟩ := ownsRow_succ hown'; obtain ⟨hv1, hC3, hF3⟩ := hC2.appended hv hrow (by decide) (hRf.cells _ _) hown' hgrow hwh; have hc1 := hv1.cell; have hf1 := hv1.frozen)
    have hC4 := hC3.put (hRf.cells _ _) (L .ready none)
    refine ⟨hC3.col.loop, rfl, ?_, fun j hj => ?_⟩
    · rw [List.length_append, cellsH_snoc]
      exact hC4
    · exact (World.putObj_heap_other (hC.fr j hj).2.2.2.1).trans ((hF3 j hj).trans (hF2 j hj))
  · rintro e W ⟨hv, (⟨F, hC⟩ | hF)⟩
    · refine ⟨hv, hC.col.marks, .inl ⟨hC.col.loop, ?_⟩⟩
      have hC2 := hC.col.put (hRf.cells _ _) (L .exhausted none)
      clear hC h0 hG f2
      generalize W.putObj (D + 1) (L .exhausted none) = V2 at *
      obtain ⟨v, hv, hrow⟩ := hC2.box
      have c1 := hv.cell
      go_wp2
      refine bodyPostR_ret (D := D) hC2.marks (results_tmp2 rfl _ _ _) ⟨⟨_, rfl, ?_⟩, ?_⟩
      · exact ownsRow_putObj (ownsRow_down hrow (by omega)) _ hC2.marks rfl
      · exact below_putObj (eb.trans (hC2.below.mono (by omega))) _ hC2.marks (by omega)
    · exact hF.elim
end Go.Proofs.YtmgllljilnkkcaaDoor

/- Layer hole: a table's finder: what is kept. -/
import Derived.Test.YtmgllljilnkkcaaDoorM3
import Derived.Test.YtmgllljilnkkcaaDoorMx
import Derived.Laws.Tables
import Derived.Laws.Rows
import Derived.Laws.CopyOwn
namespace Go.Proofs.YtmgllljilnkkcaaDoor
open Go Go.RowKit
attribute [local go_sem ↓] Go.wp_at_zero Go.wp_at_succ

def keptB (l : List Int) (j : Nat) : Bool := decide ((j : Int) ∈ linesI l) || (j == 32)
/-- Thirty-three bools, as cells. -/
def boolsA (f : Nat → Bool) : Array Value := ((List.range 33).map fun j => Value.bool (f j)).toArray
theorem boolsA_size (f : Nat → Bool) : (boolsA f).size = 33 := by simp [boolsA]
theorem boolsA_get (f : Nat → Bool) (j : Nat) (hj : j < 33) : (boolsA f)[j]? = some (.bool (f j)) := by simp [boolsA, hj]
theorem boolsA_congr {f g : Nat → Bool} (h : ∀ j, j < 33 → f j = g j) : boolsA f = boolsA g := by
  unfold boolsA
  rw [List.map_congr_left fun j hj => by rw [h j (List.mem_range.1 hj)]]
theorem boolsA_set (f : Nat → Bool) (i : Nat) (b : Bool) : (boolsA f).setIfInBounds i (.bool b) = boolsA (fun j => if j = i then b else f j) := by
  apply Array.ext_getElem?
  intro j
  by_cases hj : j < 33
  · rw [boolsA_get _ j hj, Array.getElem?_setIfInBounds]
    by_cases e : i = j
    · subst e; rw [if_pos rfl, if_pos (by rw [boolsA_size]; exact hj), if_pos rfl]
    · rw [if_neg e, boolsA_get f j hj, if_neg (fun h => e h.symm)]
  · rw [Array.getElem?_eq_none (by simp [boolsA_size]; omega), Array.getElem?_eq_none (by rw [boolsA_size]; omega)]
theorem boolsA_one (f : Nat → Bool) : (boolsA f).all (·.oneCell') = true := by
  rw [Array.all_eq_true_iff_forall_mem]
  intro v hv
  unfold boolsA at hv
  rw [List.mem_toArray] at hv
  obtain ⟨j, _, rfl⟩ := List.mem_map.1 hv
  rfl
theorem falses : (#[.bool false, .bool false, .bool false, .bool false, .bool false, .bool false, .bool false, .bool false, .bool false, .bool false, .bool false, .bool false, .bool false, .bool false, .bool false, .bool false, .bool false, .bool false, .bool false, .bool false, .bool false, .bool false, .bool false, .bool false, .bool false, .bool false, .bool false, .bool false, .bool false, .bool false, .bool false, .bool false, .bool false] : Array Value) = boolsA fun _ => false := by rfl
theorem arrInfo : (Tryd.prog.info? 74).map (·.size) = some 33 := by kernel_rfl

theorem cell_setCell_ne8 {W : World} {b o g i : Nat} {v : Value} (h : b ≠ g) : (W.setCell ⟨g, i, none⟩ v).cell? ⟨b, o, none⟩ = W.cell? ⟨b, o, none⟩ := by
  have := Below.heap_setCell W ⟨g, i, none⟩ v b h
  simp only [World.cell?, this]
theorem linesI_bound (l : List Int) (i : Nat) (hi : i < (linesI l).length) : ∃ n : Nat, n < 32 ∧ (linesI l).getD i 0 = n := by
  have h := mem_getD hi
  generalize (linesI l).getD i 0 = x at *
  cases hr : rightT l with
  | false => unfold linesI at h; rw [hr] at h; exact absurd h List.not_mem_nil
  | true =>
    unfold linesI at h
    rw [hr] at h
    obtain ⟨n, hn, rfl⟩ := List.mem_map.1 (show x ∈ (linesT l).map (fun n : Nat => (n : Int)) from h)
    exact ⟨n, List.mem_range.1 (List.mem_filter.1 hn).1, rfl⟩
theorem take_mem_succ {L : List Int} {k : Nat} (hk : k < L.length) (x : Int) : x ∈ L.take (k + 1) ↔ x ∈ L.take k ∨ x = L.getD k 0 := by
  have e : L.getD k 0 = L[k] := by simp [List.getD, hk]
  rw [e, List.take_add_one, List.getElem?_eq_getElem hk, List.mem_append, Option.toList_some, List.mem_singleton]

set_option maxHeartbeats 1000000 in
set_option maxRecDepth 20000 in
theorem keptF_any {w : World} {B : Nat} {a : Option Addr} {cap : Nat} {l : List Int} (hB : w.heap[B]? = some (.cells #[.slice a l.length cap, .bool true] 62 (0, 0))) (hv : IntsV w (.slice a l.length cap) l) :
    Calls Tryd.prog 32 #[.pointer (some ⟨B, 0, none⟩)] w fun r w' => r = .returned (.agg (boolsA (keptB l))) ∧ Below w.heap.size w w' := by
  obtain ⟨W0, hW0, e0, e1, e2, e3⟩ := allocs2 w (.cells #[.bool false, .bool false, .bool false, .bool false, .bool false, .bool false, .bool false, .bool false, .bool false, .bool false, .bool false, .bool false, .bool false, .bool false, .bool false, .bool false, .bool false, .bool false, .bool false, .bool false, .bool false, .bool false, .bool false, .bool false, .bool false, .bool false, .bool false, .bool false, .bool false, .bool false, .bool false, .bool false, .bool false] 74) (.cells #[.bool false, .bool false, .bool false, .bool false, .bool false, .bool false, .bool false, .bool false, .bool false, .bool false, .bool false, .bool false, .bool false, .bool false, .bool false, .bool false, .bool false, .bool false, .bool false, .bool false, .bool false, .bool false, .bool false, .bool false, .bool false, .bool false, .bool false, .bool false, .bool false, .bool false, .bool false, .bool false, .bool false] 74)
  rw [falses] at e2 e3
  have L := lines_any (hv.below e0)
  have c0 := cells_cell (i := 0) ((e0.block _ (block_lt hB)).trans hB) (v := .slice a l.length cap) rfl
  go_enter Tryd.func32, Tryd.ntmps32
  go_wp2_with fail
  clear hW0
  refine L.mono ?_
  rintro r W1 ⟨⟨v1, rfl, h1⟩, hb1⟩
  have b1 := e0.trans (hb1.mono e0.size)
  have i2 := (hb1.block _ (block_lt e2)).trans e2
  have i3 := (hb1.block _ (block_lt e3)).trans e3
  clear L c0 e0 e2 e3 hb1 hv hB
  have HBd' := linesI_bound l
  have hkB : ∀ j : Nat, keptB l j = (decide ((j : Int) ∈ linesI l) || (j == 32)) := fun _ => rfl
  generalize linesI l = L at h1 HBd' hkB
  have HBd := Lib.hid HBd'
  clear HBd'
  cases h1 with
  | empty a' cap' =>
    go_wp2
    refine wp_loop_rounds 1 ?_
    rw [rounds_succ]
    have i3' : W1.heap[w.heap.size + 1]? = some (.cells (boolsA fun j : Nat => decide ((j : Int) ∈ ([] : List Int))) 74 (0, 0)) := by
      rw [i3]; exact congrArg (fun c => some (Obj.cells c 74 (0, 0))) (boolsA_congr fun j _ => by simp)
    replace i3 := i3'
    clear i3'
    have c3 := cells_cell (i := 32) i3 (boolsA_get _ 32 (by decide))
    have f3 := cells_free (i := 32) i3
    have i4 := heap_setCell_same (i := 32) (.bool true) i3
    rw [boolsA_set] at i4
    have i5 : (W1.setCell ⟨w.heap.size + 1, 32, none⟩ (.bool true)).heap[w.heap.size]? = some (.cells (boolsA fun _ => false) 74 (0, 0)) := (Below.heap_setCell W1 ⟨w.heap.size + 1, 32, none⟩ (.bool true) w.heap.size (by show w.heap.size ≠ w.heap.size + 1; omega)).trans i2
    have b5 := b1.setCell (p := ⟨w.heap.size + 1, 32, none⟩) (by show w.heap.size ≤ w.heap.size + 1; omega) (.bool true)
    have hfin : boolsA (fun j => if j = 32 then true else decide ((j : Int) ∈ ([] : List Int))) = boolsA (keptB l) := boolsA_congr fun j _ => by
      rw [hkB j]
      by_cases e : j = 32
      · rw [if_pos e, e]; simp
      · rw [if_neg e, show (j == 32) = false from beq_eq_false_iff_ne.2 e, Bool.or_false]
    rw [hfin] at i4
    clear hfin hkB
    obtain ⟨W5, hW5⟩ : ∃ W5, W1.setCell ⟨w.heap.size + 1, 32, none⟩ (.bool true) = W5 := ⟨_, rfl⟩
    rw [hW5] at i4 i5 b5
    go_wp2_with (first
      | (refine wpList_load_row rfl 74 _ rfl (w.heap.size + 1) rfl 74 (boolsA (keptB l)) (0, 0) _ i4 Tryd.underlying74 rfl (by rw [boolsA_size]; exact arrInfo) ?_)
      | (refine wpList_store_row rfl 74 _ _ rfl w.heap.size (boolsA (keptB l)) rfl rfl 74 (boolsA fun _ => false) i5 (by rw [boolsA_size]; exact arrInfo) (by rw [boolsA_size, boolsA_size]) (boolsA_one _) ?_))
    have hrow := setRow_heap W5 w.heap.size (boolsA fun _ => false) (boolsA (keptB l)) 74 (0, 0) i5
    refine bodyPost_ret (results_cell_row rfl _ _ w.heap.size 74 (boolsA (keptB l)) (0, 0) _ rfl hrow Tryd.underlying74 rfl (by rw [boolsA_size]; exact arrInfo)) rfl ⟨rfl, ?_⟩
    exact below_setRow b5 (Nat.le_refl _) _
  | some b' off' cap' L hL1 hL2 hL3 =>
    have HL3 := Lib.hid hL3
    clear hL3
    go_wp2
    go_loopw [13] (fun i W => ∃ k : Nat, k ≤ L.length ∧ i = .int .i64 k ∧ W.heap[w.heap.size + 1]? = some (.cells (boolsA fun j : Nat => decide ((j : Int) ∈ L.take k)) 74 (0, 0)) ∧ W.heap[w.heap.size]? = some (.cells (boolsA fun _ => false) 74 (0, 0)) ∧ Below w.heap.size w W ∧ (∀ i, i < L.length → W.cell? ⟨b', off' + i, none⟩ = some (.int .i64 (L.getD i 0)))) (fun i _ => L.length - (intOf i).toNat)
    case atStart =>
      refine ⟨0, Nat.zero_le _, rfl, ?_, i2, b1, HL3.out⟩
      rw [i3]; exact congrArg (fun c => some (Obj.cells c 74 (0, 0))) (boolsA_congr fun j _ => by simp)
    case round =>
      obtain ⟨k, hk, rfl, j3, j2, bB, hC⟩ := hrel
      have HCs := Lib.hid hC
      clear hC i3 i2 b1
      by_cases hlt : k < L.length
      · obtain ⟨n, hn, hy⟩ := HBd.out k hlt
        have c1 := HCs.out k hlt
        rw [hy] at c1
        have c3 := cells_cell (i := n) j3 (boolsA_get _ n (by omega))
        have f3 := cells_free (i := n) j3
        have j4 := heap_setCell_same (i := n) (.bool true) j3
        rw [boolsA_set] at j4
        have j5 := (Below.heap_setCell wr ⟨w.heap.size + 1, n, none⟩ (.bool true) w.heap.size (by show w.heap.size ≠ w.heap.size + 1; omega)).trans j2
        have b5 := bB.setCell (p := ⟨w.heap.size + 1, n, none⟩) (by show w.heap.size ≤ w.heap.size + 1; omega) (.bool true)
        have hnew : boolsA (fun j => if j = n then true else decide ((j : Int) ∈ L.take k)) = boolsA (fun j : Nat => decide ((j : Int) ∈ L.take (k + 1))) := boolsA_congr fun j _ => by
          have h := take_mem_succ hlt (j : Int)
          rw [hy] at h
          by_cases e : j = n
          · rw [if_pos e, decide_eq_true (h.2 (.inr (by omega)))]
          · rw [if_neg e, Bool.eq_iff_iff, decide_eq_true_iff, decide_eq_true_iff, h]
            exact ⟨.inl, fun h => h.resolve_right (by omega)⟩
        rw [hnew] at j4
        have hne : b' ≠ w.heap.size + 1 := by
          intro e
          subst e
          have e2 : (boolsA fun j : Nat => decide ((j : Int) ∈ L.take k))[off' + k]? = some (.int .i64 n) := by
            have := c1
            simp only [World.cell?, j3] at this
            exact this
          by_cases hj : off' + k < 33
          · rw [boolsA_get _ _ hj] at e2; cases e2
          · rw [Array.getElem?_eq_none (by rw [boolsA_size]; omega)] at e2; cases e2
        have hC5 : ∀ i, i < L.length → (wr.setCell ⟨w.heap.size + 1, n, none⟩ (.bool true)).cell? ⟨b', off' + i, none⟩ = some (.int .i64 (L.getD i 0)) := fun i hi => (cell_setCell_ne8 hne).trans (HCs.out i hi)
        have HJ4 := Lib.hid j4
        have HJ5 := Lib.hid j5
        have HB5 := Lib.hid b5
        have HC5 := Lib.hid hC5
        clear hnew j4 j5 b5 j2 hy hC5
        go_wp2
        go_round
        case rel => exact ⟨k + 1, by omega, by go_num, HJ4.out, HJ5.out, HB5.out, HC5.out⟩
        case measure => simp [intOf]; omega
      · obtain rfl : k = L.length := by omega
        rw [List.take_length] at j3
        have i3 := j3
        have i2 := j2
        have b1 := bB
        clear j3 j2 bB
        have c3 := cells_cell (i := 32) i3 (boolsA_get _ 32 (by decide))
        have f3 := cells_free (i := 32) i3
        have i4 := heap_setCell_same (i := 32) (.bool true) i3
        rw [boolsA_set] at i4
        have i5 : (wr.setCell ⟨w.heap.size + 1, 32, none⟩ (.bool true)).heap[w.heap.size]? = some (.cells (boolsA fun _ => false) 74 (0, 0)) := (Below.heap_setCell wr ⟨w.heap.size + 1, 32, none⟩ (.bool true) w.heap.size (by show w.heap.size ≠ w.heap.size + 1; omega)).trans i2
        have b5 := b1.setCell (p := ⟨w.heap.size + 1, 32, none⟩) (by show w.heap.size ≤ w.heap.size + 1; omega) (.bool true)
        have hfin : boolsA (fun j => if j = 32 then true else decide ((j : Int) ∈ L)) = boolsA (keptB l) := boolsA_congr fun j _ => by
          rw [hkB j]
          by_cases e : j = 32
          · rw [if_pos e, e]; simp
          · rw [if_neg e, show (j == 32) = false from beq_eq_false_iff_ne.2 e, Bool.or_false]
        rw [hfin] at i4
        clear hfin hkB
        obtain ⟨W5, hW5⟩ : ∃ W5, wr.setCell ⟨w.heap.size + 1, 32, none⟩ (.bool true) = W5 := ⟨_, rfl⟩
        rw [hW5] at i4 i5 b5
        go_wp2_with (first
          | (refine wpList_load_row rfl 74 _ rfl (w.heap.size + 1) rfl 74 (boolsA (keptB l)) (0, 0) _ i4 Tryd.underlying74 rfl (by rw [boolsA_size]; exact arrInfo) ?_)
          | (refine wpList_store_row rfl 74 _ _ rfl w.heap.size (boolsA (keptB l)) rfl rfl 74 (boolsA fun _ => false) i5 (by rw [boolsA_size]; exact arrInfo) (by rw [boolsA_size, boolsA_size]) (boolsA_one _) ?_))
        have hrow := setRow_heap W5 w.heap.size (boolsA fun _ => false) (boolsA (keptB l)) 74 (0, 0) i5
        refine bodyPost_ret (results_cell_row rfl _ _ w.heap.size 74 (boolsA (keptB l)) (0, 0) _ rfl hrow Tryd.underlying74 rfl (by rw [boolsA_size]; exact arrInfo)) rfl ⟨rfl, ?_⟩
        exact below_setRow b5 (Nat.le_refl _) _
end Go.Proofs.YtmgllljilnkkcaaDoor

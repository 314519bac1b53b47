/- Layer marks: extents marked. -/
import Derived.Test.YtmgllljilnkkcaaDoorM4
import Derived.Test.YtmgllljilnkkcaaDoorM3b
namespace Go.Proofs.YtmgllljilnkkcaaDoor
open Go Go.RowKit
attribute [local go_sem ↓] Go.wp_at_zero Go.wp_at_succ
attribute [local go_sem ↓] run_max_int run_min_int

theorem Sam.setCell {S : Nat → Prop} {W0 W : World} (h : Sam S W0 W) (b i : Nat) (v : Value) (hb : S b) : Sam S W0 (W.setCell ⟨b, i, none⟩ v) :=
  ⟨Nat.le_trans h.size (KeepsWalks.setCell W _ v).size, fun k hk hs => (Below.heap_setCell W _ _ k (fun e => hs (by rw [e]; exact hb))).trans (h.same k hk hs)⟩

theorem cell_setCell_ne {W : World} {p : Addr} {b i : Nat} {v : Value} (h : p.block ≠ b) : (W.setCell ⟨b, i, none⟩ v).cell? p = W.cell? p := by
  have := Below.heap_setCell W ⟨b, i, none⟩ v p.block h
  unfold World.cell?
  rw [this]

theorem mark1_any {w : World} {C B g cap : Nat} {f : Nat → Int} (hP : w.cell? ⟨C, 0, none⟩ = some (.pointer (some ⟨B, 0, none⟩))) (hB : w.cell? ⟨B, 0, none⟩ = some (.slice (some ⟨g, 0, none⟩) 32 cap)) (hA : Arr w g cap 3 32 f) (a n c : Int) (k : Nat) (hk : Int.tdiv a 128 = k) (hlt : k < 32) :
    Calls Tryd.prog 29 #[.agg #[.int .i64 a, .int .i64 n, .int .i64 c], .pointer (some ⟨C, 0, none⟩)] w fun r w' => (∃ v, r = .returned v) ∧ Arr w' g cap 3 32 (fun j => if j = k then 2 else f j) ∧ Sam (fun j => j = g) w w' ∧ Below g w w' := by
  obtain ⟨W0, hW0, e0, e1, e2⟩ := allocs1 w (.cells #[.int .i64 a, .int .i64 n, .int .i64 c] 44)
  have hP0 := (e0.cell (p := ⟨C, 0, none⟩) (cell_lt hP)).trans hP
  have hB0 := (e0.cell (p := ⟨B, 0, none⟩) (cell_lt hB)).trans hB
  have hA0 := hA.next e0
  have c1 := hA0.cell k hlt
  have f1 := hA0.free k
  have x0 := cells_cell (i := 0) e2 (v := .int .i64 a) rfl
  have hS := ((Sam.refl (fun j => j = g) w).below e0).setCell g k (.int .i64 2) rfl
  have hb := (e0.mono (Nat.le_of_lt hA.lt)).setCell (p := ⟨g, k, none⟩) (Nat.le_refl _) (.int .i64 2)
  have hA1 := hA0.set k 2 hlt
  clear hA0 hA hP hB e2 e0
  go_enter Tryd.func29, Tryd.ntmps29
  go_wp2
  go_region
  clear c1 f1 x0 hP0 hB0
  go_wp2
  go_end0
  exact ⟨⟨_, rfl⟩, hA1.next (Below.refl _ _).drew, hS.below (Below.refl _ _).drew, hb.drew⟩

theorem mark2_any {w : World} {C B g cap : Nat} {f : Nat → Int} (hP : w.cell? ⟨C, 0, none⟩ = some (.pointer (some ⟨B, 0, none⟩))) (hB : w.cell? ⟨B, 0, none⟩ = some (.slice (some ⟨g, 0, none⟩) 32 cap)) (hBg : B ≠ g) (hCg : C ≠ g) (hA : Arr w g cap 3 32 f) (a n c : Int) (k m : Nat) (hk : Int.tdiv a 128 = k) (hm : Int.tdiv (a + n - 1) 128 = m) (hkm : k ≤ m) (hlt : m < 32) (h0 : 0 ≤ a) (h1 : 1 ≤ n) (h2 : a + n ≤ 4096) :
    Calls Tryd.prog 30 #[.agg #[.int .i64 a, .int .i64 n, .int .i64 c], .pointer (some ⟨C, 0, none⟩)] w fun r w' => (∃ v, r = .returned v) ∧ Arr w' g cap 3 32 (fun j => if k ≤ j ∧ j ≤ m then max (f j) 1 else f j) ∧ Sam (fun j => j = g) w w' ∧ Below g w w' := by
  obtain ⟨W0, hW0, e0, e1, e2⟩ := allocs1 w (.cells #[.int .i64 a, .int .i64 n, .int .i64 c] 44)
  have hA0 := hA.next e0
  have x0 := cells_cell (i := 0) e2 (v := .int .i64 a) rfl
  have x1 := cells_cell (i := 1) e2 (v := .int .i64 n) rfl
  have hS := (Sam.refl (fun j => j = g) w).below e0
  have hb := e0.mono (Nat.le_of_lt hA.lt)
  have hgl := hA.lt
  clear hA
  go_enter Tryd.func30, Tryd.ntmps30
  go_wp2
  go_loopw [3] (fun i W => ∃ (j : Nat) (f' : Nat → Int), k ≤ j ∧ j ≤ m + 1 ∧ i = .int .i64 j ∧ Arr W g cap 3 32 f' ∧ (∀ q, q < 32 → f' q = if k ≤ q ∧ q < j then max (f q) 1 else f q) ∧ Sam (fun j => j = g) w W ∧ Below g w W ∧ W.cell? ⟨w.heap.size, 0, none⟩ = some (.int .i64 a) ∧ W.cell? ⟨w.heap.size, 1, none⟩ = some (.int .i64 n)) (fun i _ => m + 1 - (RowKit.intOf i).toNat)
  case atStart => exact ⟨k, f, Nat.le_refl _, by omega, rfl, hA0, fun q hq => (if_neg (by omega)).symm, hS, hb, x0, x1⟩
  case round =>
    obtain ⟨j, f', hj1, hj2, rfl, hA1, hf, hS1, hb1, y0, y1⟩ := hrel
    have HF := Lib.hid hf
    have cP := hS1.cell hP hCg
    have cB := hS1.cell hB hBg
    have HS := Lib.hid hS
    clear hf hS hA0 x0 x1 hP hB hb
    by_cases hjm : j ≤ m
    · have c1 := hA1.cell j (by omega)
      have f1 := hA1.free j
      have hne : w.heap.size ≠ g := by omega
      have hS2 := hS1.setCell g j (.int .i64 (max (f' j) 1)) rfl
      have hb2 := hb1.setCell (p := ⟨g, j, none⟩) (Nat.le_refl _) (.int .i64 (max (f' j) 1))
      have hA2 := hA1.set j (max (f' j) 1) (by omega)
      have HA := Lib.hid hA1
      have z0 := (cell_setCell_ne (W := wr) (p := ⟨w.heap.size, 0, none⟩) (b := g) (i := j) (v := .int .i64 (max (f' j) 1)) hne).trans y0
      have z1 := (cell_setCell_ne (W := wr) (p := ⟨w.heap.size, 1, none⟩) (b := g) (i := j) (v := .int .i64 (max (f' j) 1)) hne).trans y1
      go_wp2
      go_region
      clear c1 f1
      go_wp2
      go_round
      case rel =>
        refine ⟨j + 1, _, by omega, by omega, by go_num, hA2.next (Below.refl _ _).drew, fun q hq => ?_, hS2.below (Below.refl _ _).drew, hb2.drew, z0, z1⟩
        by_cases e : q = j
        · rw [if_pos e, HF.out j (by omega), if_neg (by omega), if_pos (by omega), e]
        · rw [if_neg e, HF.out q hq]
          by_cases e2 : k ≤ q ∧ q < j
          · rw [if_pos e2, if_pos (by omega)]
          · rw [if_neg e2, if_neg (by omega)]
      case measure => simp [RowKit.intOf]; omega
    · obtain rfl : j = m + 1 := by omega
      have hA3 := hA1.congr (f' := fun j => if k ≤ j ∧ j ≤ m then max (f j) 1 else f j) (fun q hq => by rw [HF.out q hq]; by_cases e : k ≤ q ∧ q < m + 1; (rw [if_pos e, if_pos (by omega)]); (rw [if_neg e, if_neg (by omega)]))
      clear hA1
      go_wp2
      go_end0
      exact ⟨⟨_, rfl⟩, hA3, hS1, hb1⟩
end Go.Proofs.YtmgllljilnkkcaaDoor

/- Layer hole: what is shown of some table. -/
import Derived.Test.YtmgllljilnkkcaaDoorH13
import Derived.Test.YtmgllljilnkkcaaDoorH9
namespace Go.Proofs.YtmgllljilnkkcaaDoor
open Go Go.RowKit
attribute [local go_sem ↓] Go.wp_at_zero Go.wp_at_succ

/-- As scanH, in a form that can be computed. -/
def scanF (K : Nat → Bool) : Nat → Nat → Nat → List (Nat × Nat)
  | 0, _, _ => []
  | n + 1, s, k => bif K k then (bif s == k then scanF K n (k + 1) (k + 1) else (s, k) :: scanF K n (k + 1) (k + 1)) else scanF K n s (k + 1)
theorem scanF_eq (K : Nat → Bool) (n s k : Nat) (h : 33 - k = n) : scanH K s k = scanF K n s k := by
  induction n generalizing s k with
  | zero => exact scanH_end K s k (by omega)
  | succ n ih =>
    unfold scanF
    cases hk : K k with
    | false => rw [scanH_free (by omega) hk]; exact ih s (k + 1) (by omega)
    | true =>
      by_cases e : s = k
      · subst e; rw [scanH_none (by omega) hk]; simp only [cond_true, beq_self_eq_true]; exact ih (s + 1) (s + 1) (by omega)
      · rw [scanH_some (by omega) hk e, show (s == k) = false from beq_eq_false_iff_ne.2 e]; simp only [cond_true, cond_false]; rw [ih (k + 1) (k + 1) (by omega)]

def tT : List Int := [2, 0, 0, 0, 0, 1, 0, 0, 0, 0, 0, 0, 0, 0, 0, 0, 0, 0, 0, 0, 0, 0, 0, 0, 0, 0, 0, 0, 0, 0, 0, 0]
theorem tT_at : ∀ j : Fin 32, (if j.val = 5 then (1 : Int) else if j.val = 0 then 2 else 0) = tT.getD j.val 0 := by decide +kernel
theorem tT_right : rightT tT = true := by decide +kernel
theorem tT_holes : allL tT = [(2, 5), (6, 32)] := by
  unfold allL
  rw [tT_right]
  show holesT tT = _
  unfold holesT
  rw [scanF_eq _ 33 0 0 rfl]
  decide +kernel
theorem tT_next : optV (nextO tT 3) = .tuple #[.agg #[.int .i64 3, .int .i64 5], .bool true] := by
  have e : nextO tT 3 = some (3, 5) := by
    unfold nextO
    rw [tT_right]
    show (scanH (keptB tT) 3 3).head? = _
    rw [scanF_eq _ 30 3 3 rfl]
    decide +kernel
  rw [e]; rfl
theorem tT_fits : optV (fitsO tT 4) = .tuple #[.agg #[.int .i64 6, .int .i64 32], .bool true] := by
  have e : fitsO tT 4 = some (6, 32) := by
    unfold fitsO
    rw [tT_holes]
    decide +kernel
  rw [e]; rfl
theorem tT_room : roomE tT = 29 := by
  have := tT_holes
  unfold allL at this
  unfold roomE
  rw [tT_right] at this ⊢
  simp only [cond_true] at this ⊢
  rw [this]
  decide +kernel
theorem tT_long : longE tT = 26 := by
  have := tT_holes
  unfold allL at this
  unfold longE
  rw [tT_right] at this ⊢
  simp only [cond_true] at this ⊢
  rw [this]
  decide +kernel
theorem tT_allE : allE tT = 0 := by unfold allE; rw [tT_right]; rfl
theorem nil_allE : allE [] = 70 := by decide +kernel

def zerosH : Array Value := Array.replicate 32 (.int .i64 0)
theorem run_makeH (w : World) : (Instr.makeSlice 22 (.int .i64 32) (.int .i64 32)).run Tryd.prog w = .ok (.slice (some ⟨w.heap.size, 0, none⟩) 32 32) (w.alloc (.cells zerosH 3)) := by kernel_rfl

theorem litH (w : World) (x y z u : Nat) (t : TypeId) : HolesV (w.alloc (.cells #[.int .i64 (x : Int), .int .i64 (y : Int), .int .i64 (z : Int), .int .i64 (u : Int)] t)) (.slice (some ⟨w.heap.size, 0, none⟩) 2 2) [(x, y), (z, u)] := by
  have hn := World.alloc_heap_new w (.cells #[.int .i64 (x : Int), .int .i64 (y : Int), .int .i64 (z : Int), .int .i64 (u : Int)] t)
  refine .some w.heap.size 2 [(x, y), (z, u)] (Nat.le_refl _) (by decide) fun i hi => ?_
  match i, hi with
  | 0, _ => exact ⟨cells_cell hn rfl, cells_cell hn rfl⟩
  | 1, _ => exact ⟨cells_cell hn rfl, cells_cell hn rfl⟩

set_option maxHeartbeats 2000000 in
set_option maxRecDepth 20000 in
theorem shown_any {w : World} : Calls Tryd.prog 4 #[] w fun r w' => r = .returned (.bool true) ∧ Below w.heap.size w w' := by
  have hm := run_makeH
  obtain ⟨W0, hW0, e0, e1, e2⟩ := allocs1 w (.cells zerosH 3)
  have A0 := Arr.made (n := 32) (cap := 32) (f := fun _ => 0) e2 rfl (by intro j hj; simp [zerosH, hj]) (by decide) (by decide)
  have A1 := A0.set 0 2 (by decide)
  have A2 := A1.set 5 1 (by decide)
  have hv := A2.ints tT rfl (fun j hj => tT_at ⟨j, hj⟩)
  have b0 := (e0.setCell (p := ⟨w.heap.size, 0, none⟩) (Nat.le_refl _) (.int .i64 2)).setCell (p := ⟨w.heap.size, 5, none⟩) (Nat.le_refl _) (.int .i64 1)
  have c0 := A0.cell 0 (by decide)
  have f0 := A0.free 0
  have c1 := A1.cell 5 (by decide)
  have f1 := A1.free 5
  simp only [if_neg (show ¬ (5 = 0) by decide)] at c1
  have HV := Lib.hid hv
  have HB := Lib.hid b0
  clear A0 A1 A2 hv b0 e0 e1 e2
  go_enter Tryd.func4, Tryd.ntmps4
  go_wp2_with fail
  have hv := HV.out
  have hb := HB.out
  generalize (W0.setCell ⟨w.heap.size, 0, none⟩ (.int .i64 2)).setCell ⟨w.heap.size, 5, none⟩ (.int .i64 1) = w0 at *
  clear c0 f0 c1 f1 hW0 hm HV HB
  have m1 := all_any hv
  rw [tT_allE, tT_holes] at m1
  refine m1.mono ?_
  rintro r w1 ⟨⟨v1, rfl, h1⟩, hb1⟩
  replace hv := hv.below hb1
  replace hb := hb.trans (hb1.mono hb.size)
  clear hb1 m1
  have m1 := next_any hv 3
  rw [tT_next] at m1
  go_wp2_with fail
  refine (m1).mono ?_
  rintro r w2 ⟨rfl, hb2⟩
  replace hv := hv.below hb2
  replace h1 := h1.below hb2
  replace hb := hb.trans (hb2.mono hb.size)
  clear hb2
  clear m1
  obtain ⟨w3, hw3, e0, e1, b4⟩ := allocs1 w2 (.cells #[.int .i64 3, .int .i64 5] 29)
  replace hv := hv.below e0
  replace h1 := h1.below e0
  replace hb := hb.trans (e0.mono hb.size)
  have hl4 := block_lt b4
  clear e0 e1
  have m1 := fits_any hv 4
  rw [tT_fits] at m1
  go_wp2_with fail
  refine m1.mono ?_
  rintro r w4 ⟨rfl, hb4⟩
  replace hv := hv.below hb4
  replace h1 := h1.below hb4
  replace b4 := (hb4.block _ hl4).trans b4
  replace hb := hb.trans (hb4.mono hb.size)
  clear hb4 m1 hl4 hw3
  have hl4 := block_lt b4
  obtain ⟨w5, hw5, e0, e1, b6⟩ := allocs1 w4 (.cells #[.int .i64 6, .int .i64 32] 29)
  replace hv := hv.below e0
  replace h1 := h1.below e0
  replace b4 := (e0.block _ hl4).trans b4
  replace hb := hb.trans (e0.mono hb.size)
  clear e0 e1 hl4
  have m1 := lengths_any (w := w5) (.empty none 0)
  rw [nil_allE] at m1
  go_wp2_with fail
  refine m1.mono ?_
  rintro r w6 ⟨⟨v6, rfl, _⟩, hb6⟩
  replace hv := hv.below hb6
  replace h1 := h1.below hb6
  replace b4 := (hb6.block _ (block_lt b4)).trans b4
  replace b6 := (hb6.block _ (block_lt b6)).trans b6
  replace hb := hb.trans (hb6.mono hb.size)
  clear hb6 m1 hw5
  obtain ⟨w7, hw7, e0, e1, e2⟩ := allocs1 w6 (.cells #[.int .i64 2, .int .i64 5, .int .i64 6, .int .i64 32] 29)
  have hlit : HolesV w7 (.slice (some ⟨w6.heap.size, 0, none⟩) 2 2) [(2, 5), (6, 32)] := by
    rw [← hw7]; exact litH w6 2 5 6 32 29
  replace hv := hv.below e0
  replace h1 := h1.below e0
  replace b4 := (e0.block _ (block_lt b4)).trans b4
  replace b6 := (e0.block _ (block_lt b6)).trans b6
  replace hb := hb.trans (e0.mono hb.size)
  clear e0 e1 e2
  have m1 := same_any h1 hlit
  rw [decide_eq_true rfl] at m1
  go_wp2_with fail
  refine m1.mono ?_
  rintro r w8 ⟨rfl, hb8⟩
  replace hv := hv.below hb8
  replace b4 := (hb8.block _ (block_lt b4)).trans b4
  replace b6 := (hb8.block _ (block_lt b6)).trans b6
  replace hb := hb.trans (hb8.mono hb.size)
  have d0 := cells_cell (i := 0) b4 (v := .int .i64 3) rfl
  have d1 := cells_cell (i := 1) b4 (v := .int .i64 5) rfl
  have d2 := cells_cell (i := 0) b6 (v := .int .i64 6) rfl
  have d3 := cells_cell (i := 1) b6 (v := .int .i64 32) rfl
  have q1 : ∀ w, (Op.equalIn 10000 29 (.agg #[.int .i64 3, .int .i64 5]) (.agg #[.int .i64 3, .int .i64 5])).run Tryd.prog w = .ok true w := fun w => run_eq_hole 3 5 3 5 w
  have q2 : ∀ w, (Op.equalIn 10000 29 (.agg #[.int .i64 6, .int .i64 32]) (.agg #[.int .i64 6, .int .i64 32])).run Tryd.prog w = .ok true w := fun w => run_eq_hole 6 32 6 32 w
  clear hb8 m1 hw7 h1 hlit b4 b6
  have m1 := room_any hv
  rw [tT_room] at m1
  go_wp2_with fail
  refine (m1).mono ?_
  rintro r w9 ⟨rfl, hb9⟩
  replace hv := hv.below hb9
  replace hb := hb.trans (hb9.mono hb.size)
  clear hb9
  clear m1 d0 d1 d2 d3 q1 q2
  have m1 := longest_any hv
  rw [tT_long] at m1
  go_wp2_with fail
  refine (m1).mono ?_
  rintro r w10 ⟨rfl, hb10⟩
  replace hv := hv.below hb10
  replace hb := hb.trans (hb10.mono hb.size)
  clear hb10
  clear m1
  go_wp2
  go_ret
  exact ⟨rfl, hb⟩
end Go.Proofs.YtmgllljilnkkcaaDoor

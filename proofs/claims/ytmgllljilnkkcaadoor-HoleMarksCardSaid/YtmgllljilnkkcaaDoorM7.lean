/- Layer marks: Mark and Merge whole. -/
import Derived.Test.YtmgllljilnkkcaaDoorM6
namespace Go.Proofs.YtmgllljilnkkcaaDoor
open Go Go.RowKit
attribute [local go_sem ↓] Go.wp_at_zero Go.wp_at_succ

/-- A table with an extent marked. -/
def markF (l : List Int) (a n : Int) (j : Nat) : Int :=
  if n ≤ 128 then (if j = (a / 128).toNat then 2 else l.getD j 0) else (if (a / 128).toNat ≤ j ∧ j ≤ ((a + n - 1) / 128).toNat then max (l.getD j 0) 1 else l.getD j 0)
def markT (l : List Int) (a n : Int) : List Int := (List.range 32).map (markF l a n)

theorem mark_no1 {E : Env7} {w : World} (h : Glob7 E w) {v : Value} {l : List Int} (hv : IntsV w v l) (hr : rightT l = false) (a n : Int) :
    Calls Tryd.prog 6 #[v, .int .i64 a, .int .i64 n] w fun r w' => r = .returned (.tuple #[.slice none 0 0, .int .i64 70]) ∧ Below w.heap.size w w' := by
  have R := right_any7 hv
  rw [hr] at R
  have k0 := h.cTab
  have T := toldTab h
  obtain ⟨p, cap, rfl⟩ := hv.slice
  clear hv h hr
  go_enter Tryd.func6, Tryd.ntmps6
  go_wp2_with fail
  refine R.mono ?_
  rintro r w1 ⟨rfl, rfl⟩
  go_wp2_with fail
  refine T.mono ?_
  rintro r w1 ⟨rfl, rfl⟩
  go_wp2
  go_ret2
  exact ⟨rfl, Below.refl _ _⟩

theorem mark_no2 {E : Env7} {w : World} (h : Glob7 E w) {v : Value} {l : List Int} (hv : IntsV w v l) (hr : rightT l = true) (a n : Int) (hx : extB a n = false) :
    Calls Tryd.prog 6 #[v, .int .i64 a, .int .i64 n] w fun r w' => r = .returned (.tuple #[.slice none 0 0, .int .i64 11]) ∧ Below w.heap.size w w' := by
  have R := right_any7 hv
  rw [hr] at R
  have X := ext_no h a n hx
  obtain ⟨p, cap, rfl⟩ := hv.slice
  clear hv hr hx
  go_enter Tryd.func6, Tryd.ntmps6
  go_wp2_with fail
  refine R.mono ?_
  rintro r w1 ⟨rfl, rfl⟩
  go_wp2_with fail
  refine X.mono ?_
  rintro r w1 ⟨rfl, hb⟩
  have e0 := (Below.refl w1.heap.size w1).alloc (Nat.le_refl _) (.cells #[.int .i64 0, .int .i64 0, .int .i64 0] 44)
  have T := toldSiz ((h.below hb).below e0)
  have hb0 := hb.trans (e0.mono hb.size)
  clear X R hb e0
  go_wp2_with fail
  refine T.mono ?_
  rintro r w1 ⟨rfl, rfl⟩
  go_wp2
  go_ret2
  exact ⟨rfl, hb0⟩

set_option maxHeartbeats 1000000 in
theorem mark_yes {E : Env7} {w : World} (h : Glob7 E w) {v : Value} {l : List Int} (hv : IntsV w v l) (hr : rightT l = true) (a n : Int) (hx : extB a n = true) :
    Calls Tryd.prog 6 #[v, .int .i64 a, .int .i64 n] w fun r w' => (∃ v', r = .returned (.tuple #[v', .int .i64 0]) ∧ IntsV w' v' (markT l a n)) ∧ Below w.heap.size w w' := by
  have h32 : l.length = 32 := by unfold rightT at hr; simp at hr; exact hr.1
  have R := right_any7 hv
  rw [hr] at R
  have X := ext_yes h a n hx
  obtain ⟨g1, g2, g3, g4, g5⟩ := (extB_iff a n).1 hx
  cases hv with
  | empty a cap => simp at h32
  | some b off cap l hl hm hc =>
    obtain ⟨k, hk⟩ : ∃ k : Nat, Int.tdiv a 128 = k := ⟨(a / 128).toNat, by rw [Int.tdiv_eq_ediv_of_nonneg g1]; omega⟩
    obtain ⟨m, hm'⟩ : ∃ m : Nat, Int.tdiv (a + n - 1) 128 = m := ⟨((a + n - 1) / 128).toNat, by rw [Int.tdiv_eq_ediv_of_nonneg (by omega)]; omega⟩
    have hk2 : (a / 128).toNat = k := by rw [Int.tdiv_eq_ediv_of_nonneg g1] at hk; omega
    have hm2 : ((a + n - 1) / 128).toNat = m := by rw [Int.tdiv_eq_ediv_of_nonneg (by omega)] at hm'; omega
    have hk3 : k < 32 := by omega
    have hm3 : m < 32 := by omega
    have hkm : k ≤ m := by omega
    have HX := Lib.hid hx
    have HC := Lib.hid hc
    clear hx hr
    rw [h32] at R
    rw [h32]
    go_enter Tryd.func6, Tryd.ntmps6
    go_wp2_with fail
    clear hc
    refine R.mono ?_
    rintro r w1 ⟨rfl, rfl⟩
    go_wp2_with fail
    refine X.mono ?_
    rintro r w1' ⟨rfl, hb'⟩
    obtain ⟨w1, hW1, i0, i1, i2⟩ := allocs1 w1' (.cells #[.int .i64 a, .int .i64 n, .int .i64 (classOf n)] 44)
    have hb := hb'.trans (i0.mono hb'.size)
    have C := clone_any (w := w1) (b := b) (off := off) (cap := cap) (l := l) (by omega) (fun i hi => (hb.cell (p := ⟨b, off + i, none⟩) (cell_lt (HC.out i hi))).trans (HC.out i hi))
    rw [h32] at C
    clear X R HC
    go_wp2_with fail
    refine C.mono ?_
    rintro r w2 ⟨⟨v2, rfl, hrow⟩, hb2⟩
    have i3 := (hb2.block _ (block_lt i2)).trans i2
    have x0 := cells_cell (i := 0) i3 (v := .int .i64 a) rfl
    have x1 := cells_cell (i := 1) i3 (v := .int .i64 n) rfl
    have x2 := cells_cell (i := 2) i3 (v := .int .i64 (classOf n)) rfl
    clear hW1 i3 i2 i0
    obtain ⟨g, c1, rfl, hg, hA⟩ := Arr.of_row (by rw [h32]; exact hrow) (by omega)
    have hb3 := hb.trans (hb2.mono hb.size)
    rw [h32] at hA
    rw [h32]
    obtain ⟨W0, hW0, e0, e1, e2, e3⟩ := allocs2 w2 (.cells #[.slice (some ⟨g, 0, none⟩) 32 c1] 51) (.cells #[.int .i64 a, .int .i64 n, .int .i64 (classOf n)] 44)
    have hgl := hA.lt
    have hB := cells_cell (i := 0) e2 (v := .slice (some ⟨g, 0, none⟩) 32 c1) rfl
    have b4 := hb3.trans (e0.mono hb3.size)
    have hA0 := hA.next e0
    have hgw : w.heap.size ≤ g := Nat.le_trans hb.size hg
    have hgi : g ≠ w1'.heap.size := by have := hb2.size; omega
    have ee := (Below.refl w2.heap.size w2).alloc (Nat.le_refl _) (.cells #[.slice (some ⟨g, 0, none⟩) 32 c1] 51)
    have y0 := (ee.cell (p := ⟨w1'.heap.size, 0, none⟩) (cell_lt x0)).trans x0
    have y1 := (ee.cell (p := ⟨w1'.heap.size, 1, none⟩) (cell_lt x1)).trans x1
    have y2 := (ee.cell (p := ⟨w1'.heap.size, 2, none⟩) (cell_lt x2)).trans x2
    clear C hrow hA hb hb2 e2 hl hm hb3 e0
    by_cases h128 : n ≤ 128
    · have hcl : classOf n = 1 := if_pos h128
      rw [hcl] at hW0 e3 y2
      have D := marker_small (V := w2.heap.size + 1) hB hA0 a n e3 k hk hk3
      rw [hcl]
      clear e3 x0 x1 x2 ee
      go_wp2_with fail
      refine D.mono ?_
      rintro r w3 ⟨⟨v3, rfl⟩, hA3, hS3, hb3⟩
      have hB3 := hS3.cell hB (by show w2.heap.size ≠ g; omega)
      have b5 := b4.trans (hb3.mono hgw)
      clear D hB hA0 hS3 b4 y0 y1 y2 hW0
      go_wp2
      go_ret2
      refine ⟨⟨_, rfl, hA3.ints _ (by simp [markT]) fun j hj => ?_⟩, b5⟩
      unfold markT
      rw [getD_map_range _ _ _ hj]
      unfold markF
      rw [hk2, if_pos h128]
    · have hcl : classOf n = 2 := by unfold classOf; rw [if_neg h128, if_pos (by omega)]
      rw [hcl] at hW0 e3 y2
      have D := marker_medium (V := w2.heap.size + 1) hB (by omega) hA0 a n e3 k m hk hm' hkm hm3 g1 g3 g5
      rw [hcl]
      clear e3 x0 x1 x2 ee
      go_wp2_with fail
      refine D.mono ?_
      rintro r w3 ⟨⟨v3, rfl⟩, hA3, hS3, hb3⟩
      have hB3 := hS3.cell hB (by show w2.heap.size ≠ g; omega)
      have b5 := b4.trans (hb3.mono hgw)
      clear D hB hA0 hS3 b4 y0 y1 y2 hW0
      go_wp2
      go_ret2
      refine ⟨⟨_, rfl, hA3.ints _ (by simp [markT]) fun j hj => ?_⟩, b5⟩
      unfold markT
      rw [getD_map_range _ _ _ hj]
      unfold markF
      rw [hk2, hm2, if_neg (show ¬ n ≤ 128 by omega)]
end Go.Proofs.YtmgllljilnkkcaaDoor

/- Layer bits: Either, for all bits. -/
import Derived.Test.YtlncilcoohmlkaaDoorU12
namespace Go.Proofs.YtlncilcoohmlkaaDoor
open Go.RowKit
attribute [local go_sem ↓] Go.wp_at_zero Go.wp_at_succ

def eitherB (n : Int) (ws : List Nat) (m : Int) (us : List Nat) : Bool := rightB n ws && (rightB m us && (n == m))
def eitherE (n : Int) (ws : List Nat) (m : Int) (us : List Nat) : Int := bif eitherB n ws m us then 0 else 20
def eitherN (n : Int) (ws : List Nat) (m : Int) (us : List Nat) : Int := bif eitherB n ws m us then n else 0
def eitherL (n : Int) (ws : List Nat) (m : Int) (us : List Nat) : List Nat := bif eitherB n ws m us then orW ws us else []

set_option maxHeartbeats 2000000 in
set_option maxRecDepth 20000 in
theorem either_wrong {E : Env2} {w : World} (hGl : Glob2 E w) {n m : Int} {v u : Value} {ws us : List Nat} (hv : WordsV w v ws) (hu : WordsV w u us) (hr : eitherB n ws m us = false) :
    Calls Tryd.prog 23 #[.agg #[.int .i64 n, v], .agg #[.int .i64 m, u]] w fun r w' => r = .returned (.tuple #[noBits, .int .i64 20]) ∧ Below w.heap.size w w' := by
  obtain ⟨w1, hw1, a0, -, a2, a4, a3⟩ := allocs3 w (.cells #[.int .i64 n, v] 24) (.cells #[.int .i64 m, u] 24) (.cells #[.int .i64 0, .slice none 0 0] 24)
  have R := right_any2 (n := n) (hv.below a0)
  have hu1 := hu.below a0
  have hG1 := hGl.below a0
  obtain ⟨a, cap, rfl⟩ := hv.slice
  obtain ⟨b, cap', rfl⟩ := hu.slice
  have c0 := cells_cell (i := 0) a2 (v := .int .i64 n) rfl
  have c1 := cells_cell (i := 1) a2 (v := .slice a ws.length cap) rfl
  have c2 := cells_cell (i := 0) a4 (v := .int .i64 m) rfl
  have c3 := cells_cell (i := 1) a4 (v := .slice b us.length cap') rfl
  unfold eitherB at hr
  clear hv hu hGl
  cases hr1 : rightB n ws with
  | false =>
    rw [hr1] at R
    clear hr hr1 hu1
    go_enter Tryd.func23, Tryd.ntmps23
    go_wp2_with fail
    refine R.mono ?_
    rintro r w2 ⟨rfl, hb2⟩
    have hG2 := hG1.below hb2
    have k1 := hG2.cB
    have T := told_B hG2
    have b3 := (hb2.block _ (block_lt a3)).trans a3
    have hB2 := a0.trans (hb2.mono a0.size)
    clear R c0 c1 c2 c3 a0 a2 a3 a4 hG1 hG2 hb2 hw1
    go_wp2_with fail
    refine T.mono ?_
    rintro r w3 ⟨rfl, rfl⟩
    have d0 := cells_cell (i := 0) b3 (v := .int .i64 0) rfl
    have d1 := cells_cell (i := 1) b3 (v := .slice none 0 0) rfl
    have d2 := cells_free (i := 0) b3
    have d3 := cells_free (i := 1) b3
    have e3 := heap_setCell_same (i := 1) (.slice none 0 0) (heap_setCell_same (i := 0) (.int .i64 0) b3)
    have hbb := (hB2.setCell (p := ⟨w.heap.size + 1 + 1, 0, none⟩) (by show w.heap.size ≤ w.heap.size + 1 + 1; omega) (.int .i64 0)).setCell (p := ⟨w.heap.size + 1 + 1, 1, none⟩) (by show w.heap.size ≤ w.heap.size + 1 + 1; omega) (.slice none 0 0)
    have E3 := Lib.hid e3
    have HBB := Lib.hid hbb
    clear T b3 e3 hbb hB2
    go_wp2
    exact bodyPost_ret (results_bits_tmp rfl _ _ (w.heap.size + 1 + 1) _ _ rfl E3.out) rfl ⟨rfl, HBB.out⟩
  | true =>
    rw [hr1] at R hr
    have HU := Lib.hid hu1
    clear hu1 hr1
    go_enter Tryd.func23, Tryd.ntmps23
    go_wp2_with fail
    refine R.mono ?_
    rintro r w2 ⟨rfl, hb2⟩
    have R2 := right_any2 (n := m) (HU.out.below hb2)
    replace a2 := (hb2.block _ (block_lt a2)).trans a2
    replace a4 := (hb2.block _ (block_lt a4)).trans a4
    replace a3 := (hb2.block _ (block_lt a3)).trans a3
    replace hG1 := hG1.below hb2
    replace a0 := a0.trans (hb2.mono a0.size)
    clear R c0 c1 c2 c3 hb2 hw1 HU
    have c2 := cells_cell (i := 0) a4 (v := .int .i64 m) rfl
    have c3 := cells_cell (i := 1) a4 (v := .slice b us.length cap') rfl
    go_wp2_with fail
    refine R2.mono ?_
    rintro r w4 ⟨rfl, hb2⟩
    have hG2 := hG1.below hb2
    have k1 := hG2.cB
    have T := told_B hG2
    have b3 := (hb2.block _ (block_lt a3)).trans a3
    have hB2 := a0.trans (hb2.mono a0.size)
    have b2 := (hb2.block _ (block_lt a2)).trans a2
    have b4 := (hb2.block _ (block_lt a4)).trans a4
    have c0 := cells_cell (i := 0) b2 (v := .int .i64 n) rfl
    clear R2 c2 c3
    have c2 := cells_cell (i := 0) b4 (v := .int .i64 m) rfl
    clear a0 a2 a3 a4 hG1 hG2 hb2 b2 b4
    have hne : rightB m us = false ∨ (rightB m us = true ∧ (n != m) = true) := by
      cases h : rightB m us with
      | false => exact Or.inl rfl
      | true => rw [h] at hr; exact Or.inr ⟨rfl, by simpa [bne] using hr⟩
    clear hr
    have fin : ∀ b : Bool, b = b := fun _ => rfl
    clear fin
    rcases hne with h | ⟨h, h2⟩
    · rw [h]
      clear h
      go_wp2_with fail
      refine T.mono ?_
      rintro r w3 ⟨rfl, rfl⟩
      have d0 := cells_cell (i := 0) b3 (v := .int .i64 0) rfl
      have d1 := cells_cell (i := 1) b3 (v := .slice none 0 0) rfl
      have d2 := cells_free (i := 0) b3
      have d3 := cells_free (i := 1) b3
      have e3 := heap_setCell_same (i := 1) (.slice none 0 0) (heap_setCell_same (i := 0) (.int .i64 0) b3)
      have hbb := (hB2.setCell (p := ⟨w.heap.size + 1 + 1, 0, none⟩) (by show w.heap.size ≤ w.heap.size + 1 + 1; omega) (.int .i64 0)).setCell (p := ⟨w.heap.size + 1 + 1, 1, none⟩) (by show w.heap.size ≤ w.heap.size + 1 + 1; omega) (.slice none 0 0)
      have E3 := Lib.hid e3
      have HBB := Lib.hid hbb
      clear T b3 e3 hbb hB2
      go_wp2
      exact bodyPost_ret (results_bits_tmp rfl _ _ (w.heap.size + 1 + 1) _ _ rfl E3.out) rfl ⟨rfl, HBB.out⟩
    · rw [h]
      clear h
      go_wp2_with fail
      refine T.mono ?_
      rintro r w3 ⟨rfl, rfl⟩
      have d0 := cells_cell (i := 0) b3 (v := .int .i64 0) rfl
      have d1 := cells_cell (i := 1) b3 (v := .slice none 0 0) rfl
      have d2 := cells_free (i := 0) b3
      have d3 := cells_free (i := 1) b3
      have e3 := heap_setCell_same (i := 1) (.slice none 0 0) (heap_setCell_same (i := 0) (.int .i64 0) b3)
      have hbb := (hB2.setCell (p := ⟨w.heap.size + 1 + 1, 0, none⟩) (by show w.heap.size ≤ w.heap.size + 1 + 1; omega) (.int .i64 0)).setCell (p := ⟨w.heap.size + 1 + 1, 1, none⟩) (by show w.heap.size ≤ w.heap.size + 1 + 1; omega) (.slice none 0 0)
      have E3 := Lib.hid e3
      have HBB := Lib.hid hbb
      clear T b3 e3 hbb hB2
      go_wp2
      exact bodyPost_ret (results_bits_tmp rfl _ _ (w.heap.size + 1 + 1) _ _ rfl E3.out) rfl ⟨rfl, HBB.out⟩

set_option maxHeartbeats 2000000 in
set_option maxRecDepth 20000 in
theorem either_right {w : World} {N : Nat} {a b : Option Addr} {cap cap' : Nat} {ws us : List Nat} (hv : WordsV w (.slice a ws.length cap) ws) (hu : WordsV w (.slice b us.length cap') us) (hr : rightB (N : Int) ws = true) (hr2 : rightB (N : Int) us = true) (hlu : us.length = ws.length) (hl : ws.length ≤ 1000) :
    Calls Tryd.prog 23 #[.agg #[.int .i64 (N : Int), .slice a ws.length cap], .agg #[.int .i64 (N : Int), .slice b us.length cap']] w fun r w' => (∃ v', r = .returned (.tuple #[.agg #[.int .i64 (N : Int), v'], .int .i64 0]) ∧ WordsV w' v' (orW ws us)) ∧ Below w.heap.size w w' := by
  obtain ⟨w1, hw1, a0, -, a2, a4, a3⟩ := allocs3 w (.cells #[.int .i64 (N : Int), .slice a ws.length cap] 24) (.cells #[.int .i64 (N : Int), .slice b us.length cap'] 24) (.cells #[.int .i64 0, .slice none 0 0] 24)
  have R := right_any2 (n := (N : Int)) (hv.below a0)
  rw [hr] at R
  have HV := Lib.hid (hv.below a0)
  have HU := Lib.hid (hu.below a0)
  have c0 := cells_cell (i := 0) a2 (v := .int .i64 (N : Int)) rfl
  have c1 := cells_cell (i := 1) a2 (v := .slice a ws.length cap) rfl
  have HL := Lib.hid (And.intro hlu hl)
  clear hv hu hlu hl hr
  go_enter Tryd.func23, Tryd.ntmps23
  go_wp2_with fail
  refine R.mono ?_
  rintro r w2 ⟨rfl, hb2⟩
  have R2 := right_any2 (n := (N : Int)) (HU.out.below hb2)
  rw [hr2] at R2
  have hv2 := Lib.hid (HV.out.below hb2)
  have hu2 := Lib.hid (HU.out.below hb2)
  replace a2 := (hb2.block _ (block_lt a2)).trans a2
  replace a4 := (hb2.block _ (block_lt a4)).trans a4
  replace a3 := (hb2.block _ (block_lt a3)).trans a3
  replace a0 := a0.trans (hb2.mono a0.size)
  clear R c0 c1 hb2 hw1 HU HV hr2
  have c2 := cells_cell (i := 0) a4 (v := .int .i64 (N : Int)) rfl
  have c3 := cells_cell (i := 1) a4 (v := .slice b us.length cap') rfl
  go_wp2_with fail
  refine R2.mono ?_
  rintro r w3 ⟨rfl, hb2⟩
  have hv3 := hv2.out.below hb2
  have hu3 := hu2.out.below hb2
  replace a2 := (hb2.block _ (block_lt a2)).trans a2
  replace a4 := (hb2.block _ (block_lt a4)).trans a4
  replace a3 := (hb2.block _ (block_lt a3)).trans a3
  replace a0 := a0.trans (hb2.mono a0.size)
  clear R2 c2 c3 hb2 hv2 hu2
  have c0 := cells_cell (i := 0) a2 (v := .int .i64 (N : Int)) rfl
  have c1 := cells_cell (i := 1) a2 (v := .slice a ws.length cap) rfl
  have c2 := cells_cell (i := 0) a4 (v := .int .i64 (N : Int)) rfl
  have g0 : ((N : Int) != (N : Int)) = false := by simp
  obtain ⟨w4, hw4, x0, -, x1⟩ := allocs1 w3 (.cells #[.func (.func 42) #[] #[.pointer (some ⟨w.heap.size + 1, 0, none⟩)]] 52)
  have hT := cells_cell (i := 0) x1 (v := .func (.func 42) #[] #[.pointer (some ⟨w.heap.size + 1, 0, none⟩)]) rfl
  have y3 := (x0.block _ (block_lt a3)).trans a3
  have y4 := (x0.block _ (block_lt a4)).trans a4
  have yb := a0.trans (x0.mono a0.size)
  have CH : Calls Tryd.prog 34 #[.agg #[.int .i64 (N : Int), .slice a ws.length cap], .slice (some ⟨w3.heap.size, 0, none⟩) 1 1] w4 fun r w' => (∃ a' c', r = .returned (.agg #[.int .i64 (N : Int), .slice a' ws.length c']) ∧ WordsV w' (.slice a' ws.length c') (orW ws us) ∧ (ws.length = 0 ∨ ∃ g', a' = some ⟨g', 0, none⟩ ∧ g' ≠ w.heap.size + 1 + 1)) ∧ Below w4.heap.size w4 w' := by
    have hs : w.heap.size + 1 + 1 < w4.heap.size := block_lt y3
    by_cases h0 : ws.length = 0
    · have e : ws = [] := List.eq_nil_of_length_eq_zero h0
      rw [e]
      refine (changed_or0 (N := (N : Int)) (a := a) (cap := cap) hT).mono fun r w' ⟨⟨a', c', h1⟩, h2⟩ => ⟨⟨a', c', h1, .empty a' c', Or.inl rfl⟩, h2⟩
    · have hv4 := hv3.below x0
      have hu4 := hu3.below x0
      have hc := cells_cell (i := 1) y4 (v := .slice b us.length cap') rfl
      obtain ⟨b0, off0, rfl, _⟩ := hu4.at_ 0 (by rw [HL.out.1]; omega)
      rw [HL.out.1] at hc hu4
      refine (changed_or (N := (N : Int)) (us := us) hv4 hT hc (fun j hj => ⟨hu4.lt j, ?_⟩) (by omega) HL.out.2).mono fun r w' ⟨⟨g', c', h1, h2, h3⟩, h4⟩ => ⟨⟨_, _, h1, h2, Or.inr ⟨g', rfl, by omega⟩⟩, h4⟩
      obtain ⟨b', off', e, c⟩ := hu3.at_ j (by rw [HL.out.1]; exact hj)
      cases e
      exact (x0.cell (cell_lt c)).trans c
  have HC := Lib.hid CH
  have H4 := Lib.hid hw4
  have Y3 := Lib.hid y3
  have YB := Lib.hid yb
  have hne : w.heap.size + 1 + 1 < w3.heap.size := block_lt a3
  clear CH hw4 y3 y4 yb x0 x1 hT a0 a2 a3 a4 hv3 hu3
  go_wp2_with fail
  rw [H4.out]
  refine HC.out.mono ?_
  rintro r w5 ⟨⟨a', c', rfl, hv5, hq⟩, hb5⟩
  have b5 := (hb5.block _ (block_lt Y3.out)).trans Y3.out
  have hB5 := YB.out.trans (hb5.mono YB.out.size)
  have d0 := cells_cell (i := 0) b5 (v := .int .i64 0) rfl
  have d1 := cells_cell (i := 1) b5 (v := .slice none 0 0) rfl
  have d2 := cells_free (i := 0) b5
  have d3 := cells_free (i := 1) b5
  have e3 := heap_setCell_same (i := 1) (.slice a' ws.length c') (heap_setCell_same (i := 0) (.int .i64 (N : Int)) b5)
  have hbb := (hB5.setCell (p := ⟨w.heap.size + 1 + 1, 0, none⟩) (by show w.heap.size ≤ w.heap.size + 1 + 1; omega) (.int .i64 (N : Int))).setCell (p := ⟨w.heap.size + 1 + 1, 1, none⟩) (by show w.heap.size ≤ w.heap.size + 1 + 1; omega) (.slice a' ws.length c')
  have hv6 : WordsV ((w5.setCell ⟨w.heap.size + 1 + 1, 0, none⟩ (.int .i64 (N : Int))).setCell ⟨w.heap.size + 1 + 1, 1, none⟩ (.slice a' ws.length c')) (.slice a' ws.length c') (orW ws us) := by
    rcases hq with h0 | ⟨g', rfl, hg⟩
    · have e : ws = [] := List.eq_nil_of_length_eq_zero h0
      rw [e]
      exact .empty a' c'
    · exact (hv5.set (by simp [orW]) (w.heap.size + 1 + 1) 0 (.int .i64 (N : Int)) hg).set (by simp [orW]) (w.heap.size + 1 + 1) 1 (.slice (some ⟨g', 0, none⟩) ws.length c') hg
  have E3 := Lib.hid e3
  have HBB := Lib.hid hbb
  have HV6 := Lib.hid hv6
  clear b5 hB5 e3 hbb hv5 hv6 hq hb5 HC H4 Y3 YB c0 c1 c2
  go_wp2
  exact bodyPost_ret (results_bits_tmp rfl _ _ (w.heap.size + 1 + 1) _ _ rfl E3.out) rfl ⟨⟨_, rfl, HV6.out⟩, HBB.out⟩

theorem either_any {E : Env2} {w : World} (hGl : Glob2 E w) {n m : Int} {v u : Value} {ws us : List Nat} (hv : WordsV w v ws) (hu : WordsV w u us) :
    Calls Tryd.prog 23 #[.agg #[.int .i64 n, v], .agg #[.int .i64 m, u]] w fun r w' => (∃ v', r = .returned (.tuple #[.agg #[.int .i64 (eitherN n ws m us), v'], .int .i64 (eitherE n ws m us)]) ∧ WordsV w' v' (eitherL n ws m us)) ∧ Below w.heap.size w w' := by
  cases hr : eitherB n ws m us with
  | false =>
    unfold eitherN eitherE eitherL
    rw [hr]
    exact (either_wrong hGl hv hu hr).mono fun r w' ⟨h1, h2⟩ => ⟨⟨_, h1, .empty none 0⟩, h2⟩
  | true =>
    unfold eitherN eitherE eitherL
    rw [hr]
    unfold eitherB at hr
    rw [Bool.and_eq_true, Bool.and_eq_true] at hr
    obtain ⟨h1, h2, h3⟩ := hr
    obtain rfl : n = m := by simpa using h3
    obtain ⟨N, rfl, p1, p2, p3⟩ := rightB_iff h1
    obtain ⟨M, e, q1, q2, q3⟩ := rightB_iff h2
    obtain rfl : N = M := by omega
    obtain ⟨a, cap, rfl⟩ := hv.slice
    obtain ⟨b, cap', rfl⟩ := hu.slice
    exact either_right hv hu h1 h2 (by omega) (by omega)
end Go.Proofs.YtlncilcoohmlkaaDoor

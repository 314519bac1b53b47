/- Layer bits: Either. -/
import Derived.Test.YtlncilcoohmlkaaDoorU8
namespace Go.Proofs.YtlncilcoohmlkaaDoor
open Go.RowKit
attribute [local go_sem ↓] Go.wp_at_zero Go.wp_at_succ

theorem either0_any {W : World} (a : Option Addr) (c : Nat) (p : Value) :
    Calls Tryd.prog 42 #[.slice a 0 c, p] W fun r W' => (∃ v, r = .returned v) ∧ Below W.heap.size W W' := by
  go_enter Tryd.func42, Tryd.ntmps42
  go_wp2
  refine wp_loop_rounds 1 ?_
  rw [rounds_succ]
  go_wp2
  go_end0
  exact ⟨⟨_, rfl⟩, Below.refl _ _⟩

set_option maxHeartbeats 1000000 in
set_option maxRecDepth 20000 in
theorem either1_any {W : World} {g cap n : Nat} {f h : Nat → Nat} (hA : ArW W g cap 47 n f) (hn : n ≤ 1000) (hf : ∀ j, j < n → f j < 4294967296) {B b off cb : Nat} (hB : W.cell? ⟨B, 1, none⟩ = some (.slice (some ⟨b, off, none⟩) n cb))
    (hh : ∀ j, j < n → h j < 4294967296 ∧ W.cell? ⟨b, off + j, none⟩ = some (.int .u32 ((h j : Nat) : Int))) (hBg : B ≠ g) (hbg : b ≠ g) :
    Calls Tryd.prog 42 #[.slice (some ⟨g, 0, none⟩) n n, .pointer (some ⟨B, 0, none⟩)] W fun r W' =>
      (∃ v, r = .returned v) ∧ ArW W' g cap 47 n (fun j => f j ||| h j) ∧ W.grownBy W' (some g) := by
  have HA := Lib.hid hA
  have HF := Lib.hid hf
  have HB := Lib.hid hB
  have HH := Lib.hid hh
  clear hA hf hB hh
  go_enter Tryd.func42, Tryd.ntmps42
  go_wp2
  go_loopw [6] (fun i V => ∃ k : Nat, k ≤ n ∧ i = .int .i64 k ∧ ArW V g cap 47 n (fun j => if j < k then f j ||| h j else f j) ∧ W.grownBy V (some g)) (fun i _ => n - (intOf i).toNat)
  case atStart => exact ⟨0, Nat.zero_le _, rfl, HA.out.congr fun j _ => by rw [if_neg (by omega)], ⟨rfl, rfl, rfl, Nat.le_refl _, fun _ _ _ => rfl⟩⟩
  case round =>
    obtain ⟨k, hk, rfl, hA1, hG⟩ := hrel
    by_cases hlt : k < n
    · have c1 := hA1.cell k hlt
      rw [if_neg (by omega)] at c1
      have c2 := hA1.free k
      have hh1 := HH.out k hlt
      have c3 := grown_cell hG (p := ⟨B, 1, none⟩) hBg HB.out
      have c4 := grown_cell hG (p := ⟨b, off + k, none⟩) hbg hh1.2
      have hle := hA1.le
      have hmx := hA1.mx
      have hor := (bits_nat .u32 32 (by decide) (fun n h0 h1 => by rw [IntKind.wrap_u32]; omega) (f k) (h k) (HF.out k hlt) hh1.1).2
      have hS := hA1.set k (f k ||| h k) hlt
      have hS2 : ArW (wr.setCell ⟨g, k, none⟩ (.int .u32 ((f k ||| h k : Nat) : Int))) g cap 47 n (fun j => if j < k + 1 then f j ||| h j else f j) := hS.congr fun j hj => by
        by_cases e : j = k
        · subst e; rw [if_pos rfl, if_pos (by omega)]
        · rw [if_neg e]
          by_cases e2 : j < k
          · rw [if_pos e2, if_pos (by omega)]
          · rw [if_neg e2, if_neg (by omega)]
      have HG2 := Lib.hid (hG.trans (grownBy_setI wr g k (.int .u32 ((f k ||| h k : Nat) : Int))))
      have HS := Lib.hid hS2
      have i1 : (0 : Int) ≤ (k : Int) := by omega
      have i2 : (k : Int) < (n : Int) := by omega
      clear hA1 hG hh1 hS hS2
      generalize f k ||| h k = z at *
      generalize f k = x at *
      generalize h k = y at *
      go_wp2_with fail
      go_region
      all_goals
        go_wp2
        go_round
        case rel => exact ⟨k + 1, by omega, by go_num, ⟨HS.out.ex, HS.out.le, HS.out.mx⟩, by obtain ⟨p1, p2, p3, p4, p5⟩ := HG2.out; exact ⟨p1, p2, p3, p4, p5⟩⟩
        case measure => simp [intOf]; omega
    · obtain rfl : k = n := by omega
      have hA2 := hA1.congr (f' := fun j => f j ||| h j) fun j hj => by rw [if_pos hj]
      have HA2 := Lib.hid hA2
      have HG := Lib.hid hG
      clear hA1 hA2 hG
      go_wp2
      go_end0
      exact ⟨⟨_, rfl⟩, HA2.out, HG.out⟩

def orW (ws us : List Nat) : List Nat := (List.range ws.length).map fun j => ws.getD j 0 ||| us.getD j 0

set_option maxHeartbeats 2000000 in
set_option maxRecDepth 20000 in
theorem changed_or {w : World} {N : Int} {a : Option Addr} {cap : Nat} {ws us : List Nat} (hv : WordsV w (.slice a ws.length cap) ws) {bT oT capT B b off cb : Nat} (hT : w.cell? ⟨bT, oT, none⟩ = some (.func (.func 42) #[] #[.pointer (some ⟨B, 0, none⟩)]))
    (hB : w.cell? ⟨B, 1, none⟩ = some (.slice (some ⟨b, off, none⟩) ws.length cb)) (hh : ∀ j, j < ws.length → us.getD j 0 < 4294967296 ∧ w.cell? ⟨b, off + j, none⟩ = some (.int .u32 ((us.getD j 0 : Nat) : Int))) (h0 : 0 < ws.length) (hl : ws.length ≤ 1000) :
    Calls Tryd.prog 34 #[.agg #[.int .i64 N, .slice a ws.length cap], .slice (some ⟨bT, oT, none⟩) 1 capT] w fun r w' => (∃ g' c', r = .returned (.agg #[.int .i64 N, .slice (some ⟨g', 0, none⟩) ws.length c']) ∧ WordsV w' (.slice (some ⟨g', 0, none⟩) ws.length c') (orW ws us) ∧ w.heap.size ≤ g') ∧ Below w.heap.size w w' := by
  obtain ⟨w1, hw1, a0, a1, a2, a3⟩ := allocs2 w (.cells #[.int .i64 N, .slice a ws.length cap] 24) (.cells #[.int .i64 0, .slice none 0 0] 24)
  have hlt := fun i => hv.lt i
  have c1 := cells_cell (i := 1) a2 (v := .slice a ws.length cap) rfl
  have hv1 := hv.below a0
  obtain ⟨b0, off0, rfl, _⟩ := hv.at_ 0 h0
  have C : Calls Tryd.prog 44 #[.slice (some ⟨b0, off0, none⟩) ws.length cap] w1 _ := cloneU_any hl fun i hi => by
    obtain ⟨b', off', e, c⟩ := hv1.at_ i hi
    cases e
    exact c
  have H1 := Lib.hid hw1
  have HLT := Lib.hid hlt
  have HT := Lib.hid hT
  have HB := Lib.hid hB
  have HH := Lib.hid hh
  clear hw1 hlt hv hv1 hT hB hh
  go_enter Tryd.func34, Tryd.ntmps34
  go_wp2_with fail
  rw [H1.out]
  refine C.mono ?_
  rintro r w2 ⟨⟨v2, rfl, hrow⟩, hb2⟩
  obtain ⟨g, cap2, rfl, hg, hA⟩ := ArW.of_row hrow h0
  have hb12 := a0.trans (hb2.mono a0.size)
  have b4 := (hb2.block _ (block_lt a2)).trans a2
  have b5 := (hb2.block _ (block_lt a3)).trans a3
  have hgw : w1.heap.size ≤ g := hg
  have hs1 : w.heap.size + 1 < w1.heap.size := block_lt a3
  have hT2 := (hb12.cell (p := ⟨bT, oT, none⟩) (cell_lt HT.out)).trans HT.out
  have hB2 := (hb12.cell (p := ⟨B, 1, none⟩) (cell_lt HB.out)).trans HB.out
  have lB : B < w.heap.size := cell_lt HB.out
  have lb : b < w.heap.size := cell_lt (HH.out 0 h0).2
  have TU := either1_any hA hl (fun j _ => HLT.out j) hB2 (h := fun j => us.getD j 0) (fun j hj => ⟨(HH.out j hj).1, (hb12.cell (p := ⟨b, off + j, none⟩) (cell_lt (HH.out j hj).2)).trans (HH.out j hj).2⟩) (by omega) (by omega)
  have hle := hA.le
  have hmx := hA.mx
  have HB4 := Lib.hid b4
  have HB5 := Lib.hid b5
  have HB12 := Lib.hid hb12
  clear C hrow hg a0 a1 a2 a3 c1 hb2 H1 b4 b5 hB2 hA hb12
  go_wp2
  refine wp_loop_rounds 2 ?_
  rw [rounds_succ]
  go_wp2_with fail
  refine TU.mono ?_
  rintro r w3 ⟨⟨v, rfl⟩, hA1, hG⟩
  have b4 := grown_block hG (by omega) HB4.out
  have b5 := grown_block hG (by omega) HB5.out
  have hBw := grown_below hG HB12.out (by omega) HB12.out.size
  have d0 := cells_cell (i := 0) b4 (v := .int .i64 N) rfl
  have d1 := cells_cell (i := 0) b5 (v := .int .i64 0) rfl
  have d2 := cells_cell (i := 1) b5 (v := .slice none 0 0) rfl
  have d3 := cells_free (i := 0) b5
  have d4 := cells_free (i := 1) b5
  have e5 := heap_setCell_same (i := 1) (.slice (some ⟨g, 0, none⟩) ws.length cap2) (heap_setCell_same (i := 0) (.int .i64 N) b5)
  have hbb := (hBw.setCell (p := ⟨w.heap.size + 1, 0, none⟩) (by show w.heap.size ≤ w.heap.size + 1; omega) (.int .i64 N)).setCell (p := ⟨w.heap.size + 1, 1, none⟩) (by show w.heap.size ≤ w.heap.size + 1; omega) (.slice (some ⟨g, 0, none⟩) ws.length cap2)
  have hWV : WordsV ((w3.setCell ⟨w.heap.size + 1, 0, none⟩ (.int .i64 N)).setCell ⟨w.heap.size + 1, 1, none⟩ (.slice (some ⟨g, 0, none⟩) ws.length cap2)) (.slice (some ⟨g, 0, none⟩) ws.length cap2) (orW ws us) := by
    obtain ⟨cur, q1, q2, q3⟩ := hA1.ex
    have hk : ∀ (W : World) (b i : Nat) (v : Value), g ≠ b → (W.setCell ⟨b, i, none⟩ v).heap[g]? = W.heap[g]? := fun W b i v hj => Below.heap_setCell W ⟨b, i, none⟩ v g hj
    have hA2 : ArW ((w3.setCell ⟨w.heap.size + 1, 0, none⟩ (.int .i64 N)).setCell ⟨w.heap.size + 1, 1, none⟩ (.slice (some ⟨g, 0, none⟩) ws.length cap2)) g cap2 47 ws.length (fun j => ws.getD j 0 ||| us.getD j 0) :=
      ⟨⟨cur, (hk _ _ _ _ (by omega)).trans ((hk _ _ _ _ (by omega)).trans q1), q2, q3⟩, hA1.le, hA1.mx⟩
    refine hA2.words _ (by simp [orW]) (fun i => ?_) (fun j hj => ?_)
    · by_cases h : i < ws.length
      · have : (orW ws us).getD i 0 = ws.getD i 0 ||| us.getD i 0 := by simp [orW, List.getD, h]
        rw [this]
        exact Nat.or_lt_two_pow (n := 32) (HLT.out i) (HH.out i h).1
      · simp [orW, List.getD, h]
    · simp [orW, List.getD, hj]
  have E5 := Lib.hid e5
  have HBB := Lib.hid hbb
  have HWV := Lib.hid hWV
  clear b4 b5 e5 hbb hWV hBw hG hA1 HB4 HB5 TU hT2
  go_wp2
  rw [rounds_succ]
  go_wp2
  exact bodyPost_ret (results_bits rfl _ _ (w.heap.size + 1) _ _ rfl E5.out) rfl ⟨⟨_, _, rfl, HWV.out, by omega⟩, HBB.out⟩

set_option maxHeartbeats 1000000 in
set_option maxRecDepth 20000 in
theorem changed_or0 {w : World} {N : Int} {a : Option Addr} {cap : Nat} {bT oT capT B : Nat} (hT : w.cell? ⟨bT, oT, none⟩ = some (.func (.func 42) #[] #[.pointer (some ⟨B, 0, none⟩)])) :
    Calls Tryd.prog 34 #[.agg #[.int .i64 N, .slice a 0 cap], .slice (some ⟨bT, oT, none⟩) 1 capT] w fun r w' => (∃ a' c', r = .returned (.agg #[.int .i64 N, .slice a' 0 c'])) ∧ Below w.heap.size w w' := by
  obtain ⟨w1, hw1, a0, a1, a2, a3⟩ := allocs2 w (.cells #[.int .i64 N, .slice a 0 cap] 24) (.cells #[.int .i64 0, .slice none 0 0] 24)
  have c1 := cells_cell (i := 1) a2 (v := .slice a 0 cap) rfl
  have C := clone0_any (w := w1) a cap
  have H1 := Lib.hid hw1
  clear hw1 a1
  go_enter Tryd.func34, Tryd.ntmps34
  go_wp2_with fail
  rw [H1.out]
  refine C.mono ?_
  rintro r w2 ⟨⟨a', c', rfl⟩, hb2⟩
  have hb12 := a0.trans (hb2.mono a0.size)
  have b4 := (hb2.block _ (block_lt a2)).trans a2
  have b5 := (hb2.block _ (block_lt a3)).trans a3
  have hT2 := (hb12.cell (p := ⟨bT, oT, none⟩) (cell_lt hT)).trans hT
  have TU := either0_any (W := w2) a' 0 (.pointer (some ⟨B, 0, none⟩))
  have HB4 := Lib.hid b4
  have HB5 := Lib.hid b5
  have HB12 := Lib.hid hb12
  clear C c1 a0 a2 a3 hb2 b4 b5 hb12 H1 hT
  cases a' with
  | none =>
    go_wp2
    refine wp_loop_rounds 2 ?_
    rw [rounds_succ]
    go_wp2_with fail
    refine TU.mono ?_
    rintro r w3 ⟨⟨v, rfl⟩, hG⟩
    have b4 := (hG.block _ (block_lt HB4.out)).trans HB4.out
    have b5 := (hG.block _ (block_lt HB5.out)).trans HB5.out
    have hBw := HB12.out.trans (hG.mono HB12.out.size)
    have d0 := cells_cell (i := 0) b4 (v := .int .i64 N) rfl
    have d1 := cells_cell (i := 0) b5 (v := .int .i64 0) rfl
    have d2 := cells_cell (i := 1) b5 (v := .slice none 0 0) rfl
    have d3 := cells_free (i := 0) b5
    have d4 := cells_free (i := 1) b5
    have e5 := heap_setCell_same (i := 1) (.slice none 0 c') (heap_setCell_same (i := 0) (.int .i64 N) b5)
    have hbb := (hBw.setCell (p := ⟨w.heap.size + 1, 0, none⟩) (by show w.heap.size ≤ w.heap.size + 1; omega) (.int .i64 N)).setCell (p := ⟨w.heap.size + 1, 1, none⟩) (by show w.heap.size ≤ w.heap.size + 1; omega) (.slice none 0 c')
    have E5 := Lib.hid e5
    have HBB := Lib.hid hbb
    clear b4 b5 e5 hbb hBw hG HB4 HB5 TU hT2
    go_wp2
    rw [rounds_succ]
    go_wp2
    exact bodyPost_ret (results_bits rfl _ _ (w.heap.size + 1) _ _ rfl E5.out) rfl ⟨⟨_, _, rfl⟩, HBB.out⟩
  | some p =>
    go_wp2
    refine wp_loop_rounds 2 ?_
    rw [rounds_succ]
    go_wp2_with fail
    refine TU.mono ?_
    rintro r w3 ⟨⟨v, rfl⟩, hG⟩
    have b4 := (hG.block _ (block_lt HB4.out)).trans HB4.out
    have b5 := (hG.block _ (block_lt HB5.out)).trans HB5.out
    have hBw := HB12.out.trans (hG.mono HB12.out.size)
    have d0 := cells_cell (i := 0) b4 (v := .int .i64 N) rfl
    have d1 := cells_cell (i := 0) b5 (v := .int .i64 0) rfl
    have d2 := cells_cell (i := 1) b5 (v := .slice none 0 0) rfl
    have d3 := cells_free (i := 0) b5
    have d4 := cells_free (i := 1) b5
    have e5 := heap_setCell_same (i := 1) (.slice (some p) 0 c') (heap_setCell_same (i := 0) (.int .i64 N) b5)
    have hbb := (hBw.setCell (p := ⟨w.heap.size + 1, 0, none⟩) (by show w.heap.size ≤ w.heap.size + 1; omega) (.int .i64 N)).setCell (p := ⟨w.heap.size + 1, 1, none⟩) (by show w.heap.size ≤ w.heap.size + 1; omega) (.slice (some p) 0 c')
    have E5 := Lib.hid e5
    have HBB := Lib.hid hbb
    clear b4 b5 e5 hbb hBw hG HB4 HB5 TU hT2
    go_wp2
    rw [rounds_succ]
    go_wp2
    exact bodyPost_ret (results_bits rfl _ _ (w.heap.size + 1) _ _ rfl E5.out) rfl ⟨⟨_, _, rfl⟩, HBB.out⟩
end Go.Proofs.YtlncilcoohmlkaaDoor

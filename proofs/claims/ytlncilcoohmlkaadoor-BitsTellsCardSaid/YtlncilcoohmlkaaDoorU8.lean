/- Layer bits: Fill. -/
import Derived.Test.YtlncilcoohmlkaaDoorU7
namespace Go.Proofs.YtlncilcoohmlkaaDoor
open Go.RowKit
attribute [local go_sem ↓] Go.wp_at_zero Go.wp_at_succ

theorem clone0_any {w : World} (a : Option Addr) (cap : Nat) :
    Calls Tryd.prog 44 #[.slice a 0 cap] w fun r w' => (∃ a' c', r = .returned (.slice a' 0 c')) ∧ Below w.heap.size w w' := by
  obtain ⟨i0, hi, hz0, hz1, hz2⟩ := info_parts u32Info
  have q22 : ∀ (w : World) (a : Option Addr) (n c n' c' : Nat), (binOp .eql 22 (.slice a n c) (.slice none n' c')).run Tryd.prog w = .ok (.bool a.isNone) w := fun w a n c n' c' => Lib.run_eql_slice_nil w _ _ a n c n' c' Tryd.underlying22
  cases a with
  | none =>
    go_enter Tryd.func44, Tryd.ntmps44
    go_wp2
    go_ret
    exact ⟨⟨_, _, rfl⟩, Below.refl _ _⟩
  | some p =>
    go_enter Tryd.func44, Tryd.ntmps44
    go_wp2_with (at_builtin; refine wpList_append_own _ rfl _ _ 22 rfl w.heap.size 47 i0 (.int .u32 0) 1 4 Tryd.underlying22 hi hz0 hz1 hz2 rfl (by decide) _ _ _ rfl (World.ownsRow_made w #[] 0 (Nat.le_refl _) (Nat.zero_le _) rfl) p 0 cap [] rfl ?qc1 ?qc2 ?qc3 ?qc4 ?qc5 ?qc6 ?_)
    case qc1 => rfl
    case qc2 => intro j u hj; simp at hj
    case qc3 => intro u hu; cases hu
    case qc4 => unfold maxLen; omega
    case qc5 => omega
    case qc6 => simp
    intro v' w1 hown hgrow hnil
    have hb := ((Below.refl _ w).alloc (Nat.le_refl _) (.cells #[] 47)).grown hgrow (by simp) (by intro k hk; simp [Value.ownBlock] at hk; omega)
    rcases hown.2 with ⟨rfl, _⟩ | ⟨g, c, cur, rfl, _⟩
    · go_wp2
      go_ret
      exact ⟨⟨_, _, rfl⟩, hb⟩
    · go_wp2
      go_ret
      exact ⟨⟨_, _, rfl⟩, hb⟩

set_option maxHeartbeats 1000000 in
theorem changed_zero {w : World} (N : Int) (a : Option Addr) (cap : Nat) (aT : Option Addr) (capT : Nat) :
    Calls Tryd.prog 34 #[.agg #[.int .i64 N, .slice a 0 cap], .slice aT 0 capT] w fun r w' => (∃ a' c', r = .returned (.agg #[.int .i64 N, .slice a' 0 c'])) ∧ Below w.heap.size w w' := by
  obtain ⟨w1, hw1, a0, a1, a2, a3⟩ := allocs2 w (.cells #[.int .i64 N, .slice a 0 cap] 24) (.cells #[.int .i64 0, .slice none 0 0] 24)
  have c1 := cells_cell (i := 1) a2 (v := .slice a 0 cap) rfl
  have C := clone0_any (w := w1) a cap
  have H1 := Lib.hid hw1
  clear hw1 a1
  go_enter Tryd.func34, Tryd.ntmps34
  go_wp2_with fail
  rw [H1.out]
  refine C.mono ?_
  rintro r w2 ⟨⟨a', c', rfl⟩, hb2⟩
  have b4 := (hb2.block _ (block_lt a2)).trans a2
  have b5 := (hb2.block _ (block_lt a3)).trans a3
  have hBw := a0.trans (hb2.mono a0.size)
  have d0 := cells_cell (i := 0) b4 (v := .int .i64 N) rfl
  have d1 := cells_cell (i := 0) b5 (v := .int .i64 0) rfl
  have d2 := cells_cell (i := 1) b5 (v := .slice none 0 0) rfl
  have d3 := cells_free (i := 0) b5
  have d4 := cells_free (i := 1) b5
  have e5 := heap_setCell_same (i := 1) (.slice a' 0 c') (heap_setCell_same (i := 0) (.int .i64 N) b5)
  have hbb := (hBw.setCell (p := ⟨w.heap.size + 1, 0, none⟩) (by show w.heap.size ≤ w.heap.size + 1; omega) (.int .i64 N)).setCell (p := ⟨w.heap.size + 1, 1, none⟩) (by show w.heap.size ≤ w.heap.size + 1; omega) (.slice a' 0 c')
  have E5 := Lib.hid e5
  have HBB := Lib.hid hbb
  clear C c1 a0 a2 a3 hb2 b4 b5 hBw e5 hbb H1
  go_wp2
  refine wp_loop_rounds 1 ?_
  rw [rounds_succ]
  go_wp2
  exact bodyPost_ret (results_bits rfl _ _ (w.heap.size + 1) _ _ rfl E5.out) rfl ⟨⟨_, _, rfl⟩, HBB.out⟩

/-- The places from one on, so many. -/
def fromTo (i k : Nat) : List Nat := (List.range k).map (i + ·)
theorem fromTo_len (i k : Nat) : (fromTo i k).length = k := by simp [fromTo]
theorem fromTo_get (i k j : Nat) (hj : j < k) : (fromTo i k).getD j 0 = i + j := by simp [fromTo, List.getD, hj]
def funcsC (IO : List (Nat × Nat)) : List Value := IO.map fun p => .func (.func 45) #[] #[.pointer (some ⟨p.1, 0, none⟩), .pointer (some ⟨p.2, 0, none⟩)]
theorem changeInfo : (Tryd.prog.info? 52).map (fun i => (i.zero, i.size, i.bytes)) = some (some .nilFunc, 1, 8) := by kernel_rfl
/-- What the loop that lists closures keeps. -/
structure ListsV (W : World) (base : Nat) (v : Value) (i k : Nat) (on : Bool) (IO : List (Nat × Nat)) : Prop where
  row : W.ownsRow base 52 1 v k (funcsC IO)
  len : IO.length = k
  cells : ∀ j, j < k → W.cell? ⟨(IO.getD j (0, 0)).1, 0, none⟩ = some (.int .i64 ((i + j : Nat) : Int)) ∧ W.cell? ⟨(IO.getD j (0, 0)).2, 0, none⟩ = some (.bool on)
theorem ListsV.turns {W : World} {base : Nat} {v : Value} {i k : Nat} {on : Bool} {IO : List (Nat × Nat)} (h : ListsV W base v i k on IO) : TurnsV W v (fromTo i k) on := by
  have hl := h.len
  rcases h.row.2 with ⟨rfl, h0⟩ | ⟨g, cap, cur, rfl, hb, hg, h1, h2, h3, h4⟩
  · subst h0
    exact ⟨none, 0, by rw [fromTo_len], fun j hj => by rw [fromTo_len] at hj; omega⟩
  · refine ⟨some ⟨g, 0, none⟩, cap, by rw [fromTo_len], fun j hj => ?_⟩
    rw [fromTo_len] at hj
    obtain ⟨q1, q2⟩ := h.cells j hj
    refine ⟨g, 0, (IO.getD j (0, 0)).1, (IO.getD j (0, 0)).2, rfl, ?_, by rw [fromTo_get i k j hj]; exact q1, q2⟩
    refine cells_cell hg ?_
    have h5 : (cur.toList.take (k * 1))[j]? = some (.func (.func 45) #[] #[.pointer (some ⟨(IO.getD j (0, 0)).1, 0, none⟩), .pointer (some ⟨(IO.getD j (0, 0)).2, 0, none⟩)]) := by
      rw [h4]
      unfold funcsC
      simp [List.getD, show j < IO.length by omega]
    rw [List.getElem?_take, if_pos (by omega)] at h5
    simpa using h5
theorem ListsV.next {W w1 : World} {base : Nat} {v v' : Value} {i k : Nat} {on : Bool} {IO : List (Nat × Nat)} (h : ListsV W base v i k on IO)
    (hown : w1.ownsRow base 52 1 v' (k + 1) (funcsC IO ++ [.func (.func 45) #[] #[.pointer (some ⟨W.heap.size, 0, none⟩), .pointer (some ⟨W.heap.size + 1, 0, none⟩)]]))
    (hgrow : (((W.alloc (.cells #[.int .i64 ((i + k : Nat) : Int)] 3)).alloc (.cells #[.bool on] 4)).alloc (.cells #[.func (.func 45) #[] #[.pointer (some ⟨W.heap.size, 0, none⟩), .pointer (some ⟨W.heap.size + 1, 0, none⟩)]] 52)).grownBy w1 v.ownBlock) :
    ListsV w1 base v' i (k + 1) on (IO ++ [(W.heap.size, W.heap.size + 1)]) := by
  have hl := h.len
  have hW3 : ∀ {p : Addr} {x : Value}, p.block < W.heap.size → W.cell? p = some x → (((W.alloc (.cells #[.int .i64 ((i + k : Nat) : Int)] 3)).alloc (.cells #[.bool on] 4)).alloc (.cells #[.func (.func 45) #[] #[.pointer (some ⟨W.heap.size, 0, none⟩), .pointer (some ⟨W.heap.size + 1, 0, none⟩)]] 52)).cell? p = some x := fun {p x} hp hx =>
    (((((Below.refl _ W).alloc (Nat.le_refl _) _).alloc (by simp) _).alloc (by simp; omega) _).cell hp).trans hx
  obtain ⟨W3, hW3e, q0, q1, q2, q3, q4⟩ := allocs3 W (.cells #[.int .i64 ((i + k : Nat) : Int)] 3) (.cells #[.bool on] 4) (.cells #[.func (.func 45) #[] #[.pointer (some ⟨W.heap.size, 0, none⟩), .pointer (some ⟨W.heap.size + 1, 0, none⟩)]] 52)
  rw [hW3e] at hgrow hW3
  obtain ⟨_, _, _, _, hsame⟩ := hgrow
  have hown0 := h.row
  have hne : ∀ (b : Nat) (x : Value), 0 < k → (∀ fn a c, x ≠ .func fn a c) → W3.cell? ⟨b, 0, none⟩ = some x → v.ownBlock ≠ some b := by
    intro b x hk0 hx hc e
    rcases hown0.2 with ⟨rfl, h0⟩ | ⟨g, cap, cur, rfl, hb, hg, h1, h2, h3, h4⟩
    · simp [Value.ownBlock] at e
    · obtain rfl : g = b := by simpa [Value.ownBlock] using e
      have hg3 := (q0.block _ (block_lt hg)).trans hg
      have h5 : (cur.toList.take (k * 1))[0]? = (funcsC IO)[0]? := by rw [h4]
      rw [List.getElem?_take, if_pos (by omega)] at h5
      have h6 : cur[0]? = (funcsC IO)[0]? := by simpa using h5
      have h7 : W3.cell? ⟨g, 0, none⟩ = cur[0]? := by simp [World.cell?, hg3]
      rw [h7, h6] at hc
      unfold funcsC at hc
      rw [List.getElem?_map] at hc
      obtain ⟨y, _, hy⟩ := Option.map_eq_some_iff.1 hc
      exact hx _ _ _ hy.symm
  have hnew : ∀ b, W.heap.size ≤ b → v.ownBlock ≠ some b := by
    intro b hb e
    rcases hown0.2 with ⟨rfl, h0⟩ | ⟨g, cap, cur, rfl, _, hg, _⟩
    · simp [Value.ownBlock] at e
    · obtain rfl : g = b := by simpa [Value.ownBlock] using e
      have := block_lt hg
      omega
  have keep : ∀ {b : Nat} {x : Value}, v.ownBlock ≠ some b → W3.cell? ⟨b, 0, none⟩ = some x → w1.cell? ⟨b, 0, none⟩ = some x := by
    intro b x hb hc
    have := hsame b (cell_lt hc) (fun e => hb e.symm)
    unfold World.cell? at hc ⊢
    rw [this]
    exact hc
  refine ⟨?_, by simp [hl], fun j hj => ?_⟩
  · have e : funcsC (IO ++ [(W.heap.size, W.heap.size + 1)]) = funcsC IO ++ [.func (.func 45) #[] #[.pointer (some ⟨W.heap.size, 0, none⟩), .pointer (some ⟨W.heap.size + 1, 0, none⟩)]] := by unfold funcsC; simp
    rw [e]
    exact hown
  · by_cases hjk : j < k
    · have e : (IO ++ [(W.heap.size, W.heap.size + 1)]).getD j (0, 0) = IO.getD j (0, 0) := by simp [List.getD, List.getElem?_append_left, show j < IO.length by omega]
      rw [e]
      obtain ⟨c1, c2⟩ := h.cells j hjk
      have c1' := hW3 (p := ⟨(IO.getD j (0, 0)).1, 0, none⟩) (cell_lt c1) c1
      have c2' := hW3 (p := ⟨(IO.getD j (0, 0)).2, 0, none⟩) (cell_lt c2) c2
      exact ⟨keep (hne _ _ (by omega) (fun _ _ _ h => by cases h) c1') c1', keep (hne _ _ (by omega) (fun _ _ _ h => by cases h) c2') c2'⟩
    · obtain rfl : j = k := by omega
      have e : (IO ++ [(W.heap.size, W.heap.size + 1)]).getD j (0, 0) = (W.heap.size, W.heap.size + 1) := by simp [List.getD, ← hl]
      rw [e]
      exact ⟨keep (hnew _ (Nat.le_refl _)) (cells_cell q2 rfl), keep (hnew _ (by omega)) (cells_cell q3 rfl)⟩

def fillW (ws : List Nat) (i k : Nat) (on : Bool) : List Nat := (List.range ws.length).map fun j => (fromTo i k).foldl (setF on) (fun j => ws.getD j 0) j

set_option maxHeartbeats 2000000 in
set_option maxRecDepth 20000 in
theorem fill_wrong {E : Env2} {w : World} (hGl : Glob2 E w) {n : Int} {v : Value} {ws : List Nat} (hv : WordsV w v ws) (hr : rightB n ws = false) (i j : Int) (on : Bool) :
    Calls Tryd.prog 20 #[.agg #[.int .i64 n, v], .int .i64 i, .int .i64 j, .bool on] w fun r w' => r = .returned (.tuple #[noBits, .int .i64 20]) ∧ Below w.heap.size w w' := by
  obtain ⟨w1, hw1, a0, a1, a2, a3⟩ := allocs2 w (.cells #[.int .i64 n, v] 24) (.cells #[.int .i64 0, .slice none 0 0] 24)
  have R := right_any2 (n := n) (hv.below a0)
  rw [hr] at R
  have hG1 := hGl.below a0
  have k0 := hG1.cB
  have c0 := cells_cell (i := 0) a2 (v := .int .i64 n) rfl
  have c1 := cells_cell (i := 1) a2 (v := v) rfl
  obtain ⟨a, cap, rfl⟩ := hv.slice
  have H1 := Lib.hid hw1
  clear hw1 hv hr a1 hGl
  go_enter Tryd.func20, Tryd.ntmps20
  go_wp2
  rw [H1.out]
  refine wp_scope_ahead 0 rfl ?_
  go_wp2_with fail
  refine R.mono ?_
  rintro r w2 ⟨rfl, hb2⟩
  have T := told_B (hG1.below hb2)
  have b3 := (hb2.block _ (block_lt a3)).trans a3
  have hB2 := a0.trans (hb2.mono a0.size)
  clear R k0 c0 c1 a0 a2 a3 hG1 hb2 H1
  go_wp2
  refine wp_goto ?_
  refine ⟨rfl, ?_⟩
  go_wp2_with fail
  refine T.mono ?_
  rintro r w3 ⟨rfl, rfl⟩
  have d0 := cells_cell (i := 0) b3 (v := .int .i64 0) rfl
  have d1 := cells_cell (i := 1) b3 (v := .slice none 0 0) rfl
  have d2 := cells_free (i := 0) b3
  have d3 := cells_free (i := 1) b3
  have e3 := heap_setCell_same (i := 1) (.slice none 0 0) (heap_setCell_same (i := 0) (.int .i64 0) b3)
  have hbb := (hB2.setCell (p := ⟨w.heap.size + 1, 0, none⟩) (by show w.heap.size ≤ w.heap.size + 1; omega) (.int .i64 0)).setCell (p := ⟨w.heap.size + 1, 1, none⟩) (by show w.heap.size ≤ w.heap.size + 1; omega) (.slice none 0 0)
  have E3 := Lib.hid e3
  have HBB := Lib.hid hbb
  clear T b3 e3 hbb hB2
  go_wp2
  rw [Exit.noGoto_ret]
  exact bodyPost_ret (results_bits_tmp rfl _ _ (w.heap.size + 1) _ _ rfl E3.out) rfl ⟨rfl, HBB.out⟩

set_option maxHeartbeats 4000000 in
set_option maxRecDepth 20000 in
theorem fill_place {E : Env2} {w : World} (hGl : Glob2 E w) {n : Int} {v : Value} {ws : List Nat} (hv : WordsV w v ws) (hr : rightB n ws = true) (i j : Int) (hi : i < 0 ∨ j < i ∨ n < j) (on : Bool) :
    Calls Tryd.prog 20 #[.agg #[.int .i64 n, v], .int .i64 i, .int .i64 j, .bool on] w fun r w' => r = .returned (.tuple #[noBits, .int .i64 21]) ∧ Below w.heap.size w w' := by
  obtain ⟨w1, hw1, a0, a1, a2, a3⟩ := allocs2 w (.cells #[.int .i64 n, v] 24) (.cells #[.int .i64 0, .slice none 0 0] 24)
  have R := right_any2 (n := n) (hv.below a0)
  rw [hr] at R
  have hG1 := hGl.below a0
  have k0 := hG1.cB
  have c0 := cells_cell (i := 0) a2 (v := .int .i64 n) rfl
  have c1 := cells_cell (i := 1) a2 (v := v) rfl
  obtain ⟨a, cap, rfl⟩ := hv.slice
  have H1 := Lib.hid hw1
  clear hw1 hv hr a1 hGl
  go_enter Tryd.func20, Tryd.ntmps20
  go_wp2
  rw [H1.out]
  refine wp_scope_ahead 0 rfl ?_
  go_wp2_with fail
  refine R.mono ?_
  rintro r w2 ⟨rfl, hb2⟩
  have hG2 := hG1.below hb2
  have T := told_P hG2
  have k1 := hG2.cP
  have b2 := (hb2.block _ (block_lt a2)).trans a2
  have b3 := (hb2.block _ (block_lt a3)).trans a3
  have hB2 := a0.trans (hb2.mono a0.size)
  have q0 := cells_cell (i := 0) b2 (v := .int .i64 n) rfl
  clear R k0 c0 c1 a0 a2 a3 hG1 hG2 hb2 H1 b2
  by_cases h0 : i < 0
  · have g0 : decide (i < 0) = true := decide_eq_true h0
    clear hi
    go_wp2
    refine wp_goto ?_
    refine ⟨rfl, ?_⟩
    go_wp2_with fail
    refine T.mono ?_
    rintro r w3 ⟨rfl, rfl⟩
    have d0 := cells_cell (i := 0) b3 (v := .int .i64 0) rfl
    have d1 := cells_cell (i := 1) b3 (v := .slice none 0 0) rfl
    have d2 := cells_free (i := 0) b3
    have d3 := cells_free (i := 1) b3
    have e3 := heap_setCell_same (i := 1) (.slice none 0 0) (heap_setCell_same (i := 0) (.int .i64 0) b3)
    have hbb := (hB2.setCell (p := ⟨w.heap.size + 1, 0, none⟩) (by show w.heap.size ≤ w.heap.size + 1; omega) (.int .i64 0)).setCell (p := ⟨w.heap.size + 1, 1, none⟩) (by show w.heap.size ≤ w.heap.size + 1; omega) (.slice none 0 0)
    have E3 := Lib.hid e3
    have HBB := Lib.hid hbb
    clear T b3 e3 hbb hB2
    go_wp2
    rw [Exit.noGoto_ret]
    exact bodyPost_ret (results_bits_tmp rfl _ _ (w.heap.size + 1) _ _ rfl E3.out) rfl ⟨rfl, HBB.out⟩
  · have g0 : decide (i < 0) = false := decide_eq_false (by omega)
    by_cases h1 : j < i
    · have g1 : decide (j < i) = true := decide_eq_true h1
      clear hi
      go_wp2
      refine wp_goto ?_
      refine ⟨rfl, ?_⟩
      go_wp2_with fail
      refine T.mono ?_
      rintro r w3 ⟨rfl, rfl⟩
      have d0 := cells_cell (i := 0) b3 (v := .int .i64 0) rfl
      have d1 := cells_cell (i := 1) b3 (v := .slice none 0 0) rfl
      have d2 := cells_free (i := 0) b3
      have d3 := cells_free (i := 1) b3
      have e3 := heap_setCell_same (i := 1) (.slice none 0 0) (heap_setCell_same (i := 0) (.int .i64 0) b3)
      have hbb := (hB2.setCell (p := ⟨w.heap.size + 1, 0, none⟩) (by show w.heap.size ≤ w.heap.size + 1; omega) (.int .i64 0)).setCell (p := ⟨w.heap.size + 1, 1, none⟩) (by show w.heap.size ≤ w.heap.size + 1; omega) (.slice none 0 0)
      have E3 := Lib.hid e3
      have HBB := Lib.hid hbb
      clear T b3 e3 hbb hB2
      go_wp2
      rw [Exit.noGoto_ret]
      exact bodyPost_ret (results_bits_tmp rfl _ _ (w.heap.size + 1) _ _ rfl E3.out) rfl ⟨rfl, HBB.out⟩
    · have g1 : decide (j < i) = false := decide_eq_false (by omega)
      have g2 : decide (n < j) = true := decide_eq_true (by omega)
      clear hi
      go_wp2
      refine wp_goto ?_
      refine ⟨rfl, ?_⟩
      go_wp2_with fail
      refine T.mono ?_
      rintro r w3 ⟨rfl, rfl⟩
      have d0 := cells_cell (i := 0) b3 (v := .int .i64 0) rfl
      have d1 := cells_cell (i := 1) b3 (v := .slice none 0 0) rfl
      have d2 := cells_free (i := 0) b3
      have d3 := cells_free (i := 1) b3
      have e3 := heap_setCell_same (i := 1) (.slice none 0 0) (heap_setCell_same (i := 0) (.int .i64 0) b3)
      have hbb := (hB2.setCell (p := ⟨w.heap.size + 1, 0, none⟩) (by show w.heap.size ≤ w.heap.size + 1; omega) (.int .i64 0)).setCell (p := ⟨w.heap.size + 1, 1, none⟩) (by show w.heap.size ≤ w.heap.size + 1; omega) (.slice none 0 0)
      have E3 := Lib.hid e3
      have HBB := Lib.hid hbb
      clear T b3 e3 hbb hB2
      go_wp2
      rw [Exit.noGoto_ret]
      exact bodyPost_ret (results_bits_tmp rfl _ _ (w.heap.size + 1) _ _ rfl E3.out) rfl ⟨rfl, HBB.out⟩

set_option maxHeartbeats 4000000 in
set_option maxRecDepth 20000 in
theorem fill_right {E : Env2} {w : World} (hGl : Glob2 E w) {N : Nat} {a : Option Addr} {cap : Nat} {ws : List Nat} (hv : WordsV w (.slice a ws.length cap) ws) (hr : rightB (N : Int) ws = true) (hN : N ≤ 32 * ws.length) (hN2 : N ≤ 20000) (hl : ws.length ≤ 1000) (hN0 : ws.length = 0 → N = 0) (i j : Nat) (hij : i ≤ j) (hj : j ≤ N) (on : Bool) :
    Calls Tryd.prog 20 #[.agg #[.int .i64 (N : Int), .slice a ws.length cap], .int .i64 (i : Int), .int .i64 (j : Int), .bool on] w fun r w' => (∃ v', r = .returned (.tuple #[.agg #[.int .i64 (N : Int), v'], .int .i64 0]) ∧ WordsV w' v' (fillW ws i (j - i) on)) ∧ Below w.heap.size w w' := by
  obtain ⟨i0, hi, hz0, hz1, hz2⟩ := info_parts changeInfo
  obtain ⟨w1, hw1, a0, a1, a2, a3⟩ := allocs2 w (.cells #[.int .i64 (N : Int), .slice a ws.length cap] 24) (.cells #[.int .i64 0, .slice none 0 0] 24)
  have R := right_any2 (n := (N : Int)) (hv.below a0)
  rw [hr] at R
  have hG1 := hGl.below a0
  have k0 := hG1.cB
  have c0 := cells_cell (i := 0) a2 (v := .int .i64 (N : Int)) rfl
  have c1 := cells_cell (i := 1) a2 (v := .slice a ws.length cap) rfl
  have HV := Lib.hid (hv.below a0)
  have H1 := Lib.hid hw1
  have HN0 := Lib.hid hN0
  clear hw1 hv hr a1 hGl hN0
  go_enter Tryd.func20, Tryd.ntmps20
  go_wp2
  rw [H1.out]
  refine wp_scope_ahead 0 rfl ?_
  go_wp2_with fail
  refine R.mono ?_
  rintro r w2 ⟨rfl, hb2⟩
  have hG2 := hG1.below hb2
  have k1 := hG2.cP
  have b2 := (hb2.block _ (block_lt a2)).trans a2
  have b3 := (hb2.block _ (block_lt a3)).trans a3
  have hB2 := a0.trans (hb2.mono a0.size)
  have q0 := cells_cell (i := 0) b2 (v := .int .i64 (N : Int)) rfl
  have hltw : w.heap.size + 1 < w2.heap.size := block_lt b3
  have g0 : decide ((i : Int) < 0) = false := decide_eq_false (by omega)
  have g1 : decide ((j : Int) < (i : Int)) = false := decide_eq_false (by omega)
  have g2 : decide ((N : Int) < (j : Int)) = false := decide_eq_false (by omega)
  have g1' : decide (j < i) = false := decide_eq_false (by omega)
  have g2' : decide (N < j) = false := decide_eq_false (by omega)
  have HV2 := Lib.hid (HV.out.below hb2)
  have B2 := Lib.hid b2
  have B3 := Lib.hid b3
  have HB2 := Lib.hid hB2
  clear R k0 c0 c1 a0 a2 a3 hG1 hG2 hb2 H1 b2 hB2 b3 HV
  go_wp2
  clear q0 g0 g1 g2 g1' g2'
  go_loopw [10, 12] (fun o q W => ∃ (k m : Nat) (IO : List (Nat × Nat)) (ao : Option Addr) (co : Nat), k ≤ j - i ∧ i + k = m ∧ o = .slice ao k co ∧ q = .int .i64 (m : Int) ∧ ListsV W w2.heap.size o i k on IO ∧ Below w2.heap.size w2 W) (fun o _ _ => (j - i) - (match o with | .slice _ n _ => n | _ => 0))
  case atStart => exact ⟨0, i, [], none, 0, Nat.zero_le _, rfl, rfl, rfl, ⟨World.ownsRow_nil _ _ _ _, rfl, fun j hj => by omega⟩, Below.refl _ _⟩
  case round =>
    obtain ⟨k, m, IO, ao, co, hk, hm, rfl, rfl, hL, hB⟩ := hrel
    have HM := Lib.hid hm
    by_cases hlt : k < j - i
    · obtain ⟨W4, hW4, e0, e1, e2, e3⟩ := allocs2 wr (.cells #[.int .i64 (m : Int)] 3) (.cells #[.bool on] 4)
      have TU := turn_any (m : Int) on wr
      have hrow := ownsRow_below hL.row e0
      have g1 : decide ((m : Int) < (j : Int)) = true := decide_eq_true (by omega)
      have g2 : decide (m < j) = true := decide_eq_true (by omega)
      have hk2 : k < 20000 := by omega
      have hm2 : m < 20000 := by omega
      have hs4 : w2.heap.size ≤ W4.heap.size := by have := hB.size; omega
      have HL := Lib.hid hL
      have hb4 := hB.trans (e0.mono hB.size)
      have HE1 := Lib.hid e1
      have HW4 := Lib.hid hW4
      clear hL hm e1 e2 e3 hW4
      go_wp2_with fail
      refine TU.mono ?_
      rintro r w' ⟨rfl, hw⟩
      rw [HW4.out] at hw
      subst hw
      clear TU
      go_wp2_with (at_builtin; refine wpList_append_own _ rfl _ _ 59 rfl w2.heap.size 52 i0 .nilFunc 1 8 Tryd.underlying59 hi hz0 hz1 hz2 rfl (by decide) _ _ _ rfl (hrow.alloc _) ⟨W4.heap.size, 0, none⟩ 1 1 [.func (.func 45) #[] #[.pointer (some ⟨wr.heap.size, 0, none⟩), .pointer (some ⟨wr.heap.size + 1, 0, none⟩)]] rfl rfl (cell_one_new _ _ _) (by simp [Value.oneCell']) (by unfold maxLen; omega) (by omega) (by simp; omega) ?_; intro v' w5 hown' hgrow _; obtain ⟨g', cap', rfl⟩ := ownsRow_succ hown')
      have hB5 : Below w2.heap.size w2 w5 := (hb4.alloc hs4 _).grown hgrow (by simp; omega) (fun q hq => ownsRow_block hrow hq.symm)
      have hL5 : ListsV w5 w2.heap.size (.slice (some ⟨g', 0, none⟩) (k + 1) cap') i (k + 1) on (IO ++ [(wr.heap.size, wr.heap.size + 1)]) := by
        refine HL.out.next hown' ?_
        rw [HM.out, HW4.out]
        exact hgrow
      have HL5 := Lib.hid hL5
      clear hgrow hown' hL5 hb4 hrow HL HW4 HE1 e0
      go_wp2
      go_round
      case rel => exact ⟨k + 1, m + 1, _, _, _, by omega, by have := HM.out; omega, rfl, by go_num, HL5.out, hB5⟩
      case measure => simp; omega
    · obtain rfl : k = j - i := by omega
      obtain rfl : m = j := by omega
      have hT := hL.turns
      have b2 := (hB.block _ (by omega)).trans B2.out
      have b3 := (hB.block _ hltw).trans B3.out
      have q0 := cells_cell (i := 0) b2 (v := .int .i64 (N : Int)) rfl
      have q1 := cells_cell (i := 1) b2 (v := .slice a ws.length cap) rfl
      have hBw := HB2.out.trans (hB.mono HB2.out.size)
      have hvw := HV2.out.below hB
      rcases Nat.eq_zero_or_pos ws.length with hz | hz
      · have hNz := HN0.out hz
        obtain rfl : ws = [] := List.length_eq_zero_iff.1 hz
        obtain rfl : m = 0 := by omega
        obtain rfl : i = 0 := by omega
        have CH := changed_zero (w := wr) (N : Int) a cap ao co
        have HT := Lib.hid CH
        have BB3 := Lib.hid b3
        have HBW := Lib.hid hBw
        rw [show ((0 : Nat) : Int) = 0 from rfl]
        clear hT b2 b3 hBw hvw CH hL hm hB hNz hz HM
        go_wp2_with fail
        refine HT.out.mono ?_
        rintro r w9 ⟨⟨a9, c9, rfl⟩, hb9⟩
        have hw9 := block_lt BB3.out
        have b9 := (hb9.block _ hw9).trans BB3.out
        have d0 := cells_cell (i := 0) b9 (v := .int .i64 0) rfl
        have d1 := cells_cell (i := 1) b9 (v := .slice none 0 0) rfl
        have d2 := cells_free (i := 0) b9
        have d3 := cells_free (i := 1) b9
        have e3 := heap_setCell_same (i := 1) (.slice a9 0 c9) (heap_setCell_same (i := 0) (.int .i64 (N : Int)) b9)
        have hbb := ((HBW.out.trans (hb9.mono HBW.out.size)).setCell (p := ⟨w.heap.size + 1, 0, none⟩) (by show w.heap.size ≤ w.heap.size + 1; omega) (.int .i64 (N : Int))).setCell (p := ⟨w.heap.size + 1, 1, none⟩) (by show w.heap.size ≤ w.heap.size + 1; omega) (.slice a9 0 c9)
        have E3 := Lib.hid e3
        have HBB := Lib.hid hbb
        clear b9 e3 hbb hb9 q0 q1 HT BB3 HBW
        go_wp2
        rw [Exit.aheadP_ret]
        exact bodyPost_ret (results_bits_tmp rfl _ _ (w.heap.size + 1) _ _ rfl E3.out) rfl ⟨⟨_, rfl, .empty _ _⟩, HBB.out⟩
      · have CH := changed_any (N := (N : Int)) hvw hT hz hl (by rw [fromTo_len]; omega) (fun q hq => by rw [fromTo_len] at hq; rw [fromTo_get _ _ _ hq]; omega)
        have HT := Lib.hid CH
        have BB3 := Lib.hid b3
        have HBW := Lib.hid hBw
        clear hT b2 b3 hBw hvw CH hL hm hB
        go_wp2_with fail
        refine HT.out.mono ?_
        rintro r w9 ⟨⟨g9, cap9, rfl, hv9, hg9⟩, hb9⟩
        have hw9 := block_lt BB3.out
        have b9 := (hb9.block _ hw9).trans BB3.out
        have d0 := cells_cell (i := 0) b9 (v := .int .i64 0) rfl
        have d1 := cells_cell (i := 1) b9 (v := .slice none 0 0) rfl
        have d2 := cells_free (i := 0) b9
        have d3 := cells_free (i := 1) b9
        have e3 := heap_setCell_same (i := 1) (.slice (some ⟨g9, 0, none⟩) ws.length cap9) (heap_setCell_same (i := 0) (.int .i64 (N : Int)) b9)
        have hbb := ((HBW.out.trans (hb9.mono HBW.out.size)).setCell (p := ⟨w.heap.size + 1, 0, none⟩) (by show w.heap.size ≤ w.heap.size + 1; omega) (.int .i64 (N : Int))).setCell (p := ⟨w.heap.size + 1, 1, none⟩) (by show w.heap.size ≤ w.heap.size + 1; omega) (.slice (some ⟨g9, 0, none⟩) ws.length cap9)
        have hv10 := (hv9.set (by simp) (w.heap.size + 1) 0 (.int .i64 (N : Int)) (by omega)).set (by simp) (w.heap.size + 1) 1 (.slice (some ⟨g9, 0, none⟩) ws.length cap9) (by omega)
        have E3 := Lib.hid e3
        have HBB := Lib.hid hbb
        have HV10 := Lib.hid hv10
        clear b9 e3 hbb hv10 hv9 hb9 q0 q1 HT BB3 HBW
        go_wp2
        rw [Exit.aheadP_ret]
        exact bodyPost_ret (results_bits_tmp rfl _ _ (w.heap.size + 1) _ _ rfl E3.out) rfl ⟨⟨_, rfl, HV10.out⟩, HBB.out⟩

/-- What Fill answers. -/
def fillB (n : Int) (ws : List Nat) (i j : Int) : Bool := rightB n ws && (decide (0 ≤ i) && (decide (i ≤ j) && decide (j ≤ n)))
def fillE (n : Int) (ws : List Nat) (i j : Int) : Int := bif rightB n ws then bif fillB n ws i j then 0 else 21 else 20
def fillN (n : Int) (ws : List Nat) (i j : Int) : Int := bif fillB n ws i j then n else 0
def fillL (n : Int) (ws : List Nat) (i j : Int) (on : Bool) : List Nat := bif fillB n ws i j then fillW ws i.toNat (j.toNat - i.toNat) on else []
theorem fill_any {E : Env2} {w : World} (hGl : Glob2 E w) {n : Int} {v : Value} {ws : List Nat} (hv : WordsV w v ws) (i j : Int) (on : Bool) :
    Calls Tryd.prog 20 #[.agg #[.int .i64 n, v], .int .i64 i, .int .i64 j, .bool on] w fun r w' => (∃ v', r = .returned (.tuple #[.agg #[.int .i64 (fillN n ws i j), v'], .int .i64 (fillE n ws i j)]) ∧ WordsV w' v' (fillL n ws i j on)) ∧ Below w.heap.size w w' := by
  unfold fillE fillN fillL
  cases hr : rightB n ws with
  | false =>
    have e : fillB n ws i j = false := by unfold fillB; rw [hr]; rfl
    rw [e]
    exact (fill_wrong hGl hv hr i j on).mono fun r w' ⟨h1, h2⟩ => ⟨⟨_, h1, .empty none 0⟩, h2⟩
  | true =>
    by_cases hi : 0 ≤ i ∧ i ≤ j ∧ j ≤ n
    · have e : fillB n ws i j = true := by unfold fillB; rw [hr, decide_eq_true hi.1, decide_eq_true hi.2.1, decide_eq_true hi.2.2]; rfl
      rw [e]
      obtain ⟨N, rfl, h1, h2, h3⟩ := rightB_iff hr
      obtain ⟨k, rfl⟩ : ∃ k : Nat, i = k := ⟨i.toNat, by omega⟩
      obtain ⟨m, rfl⟩ : ∃ m : Nat, j = m := ⟨j.toNat, by omega⟩
      obtain ⟨a, cap, rfl⟩ := hv.slice
      rw [Int.toNat_natCast, Int.toNat_natCast]
      exact fill_right hGl hv hr (by omega) h1 (by omega) (fun h => by omega) k m (by omega) (by omega) on
    · have e : fillB n ws i j = false := by
        unfold fillB
        rw [hr, Bool.true_and, Bool.and_eq_false_iff, Bool.and_eq_false_iff, decide_eq_false_iff_not, decide_eq_false_iff_not, decide_eq_false_iff_not]
        omega
      rw [e]
      exact (fill_place hGl hv hr i j (by omega) on).mono fun r w' ⟨h1, h2⟩ => ⟨⟨_, h1, .empty none 0⟩, h2⟩
end Go.Proofs.YtlncilcoohmlkaaDoor

/- Layer bits: lists of places, how many, is one on. -/
import Derived.Test.YtlncilcoohmlkaaDoorU2
import Derived.Test.YtlncilcoohmlkaaDoorAr
namespace Go.Proofs.YtlncilcoohmlkaaDoor
open Go Go.RowKit Go.Shelf
attribute [local go_sem ↓] Go.wp_at_zero Go.wp_at_succ
attribute [local go_sem] Oper.semAt_some

theorem intInfo : (Tryd.prog.info? 3).map (fun i => (i.zero, i.size, i.bytes)) = some (some (.int .i64 0), 1, 8) := by kernel_rfl
theorem rightB_iff {n : Int} {ws : List Nat} (h : rightB n ws = true) : ∃ N : Nat, n = N ∧ N ≤ 20000 ∧ ws.length = (N + 31) / 32 ∧ ∀ i, N ≤ i → i < 32 * ws.length → onB ws i = false := by
  unfold rightB at h
  simp only [Bool.and_eq_true, decide_eq_true_eq] at h
  obtain ⟨h1, h2, h3, h4⟩ := h
  obtain ⟨N, rfl⟩ : ∃ N : Nat, n = N := ⟨n.toNat, by omega⟩
  exact ⟨N, rfl, by omega, by omega, (tailB_iff ws N).1 h4⟩
theorem IntsV.of_row {W : World} {base : Nat} {e : TypeId} {v : Value} {k : Nat} {xs : List Int} (h : W.ownsRow base e 1 v k (xs.map fun x : Int => Value.int .i64 x)) : IntsV W v xs := by
  rcases h.2 with ⟨rfl, h0⟩ | ⟨g, cap, cur, rfl, _, hg, h1, h2, h3, h4⟩
  · have hl := h.1
    rw [h0] at hl
    have : xs = [] := by simpa using hl
    subst this
    exact .empty none 0
  · have hl : k = xs.length := by have := h.1; simp at this; omega
    subst hl
    refine .some g 0 cap xs h1 (by unfold maxLen at h2; omega) fun i hi => ?_
    rw [Nat.zero_add]
    refine cells_cell hg ?_
    have h5 : (cur.toList.take (xs.length * 1))[i]? = Option.some (Value.int .i64 (xs.getD i 0)) := by rw [h4]; simp [List.getD_eq_getElem?_getD, hi]
    rw [List.getElem?_take, if_pos (by omega)] at h5
    simpa using h5

set_option maxHeartbeats 2000000 in
set_option maxRecDepth 20000 in
theorem list_right {w : World} {N : Nat} {a : Option Addr} {cap : Nat} {ws : List Nat} (hv : WordsV w (.slice a ws.length cap) ws) (hr : rightB (N : Int) ws = true) (hN2 : N ≤ 20000) (hN : N ≤ 32 * ws.length) :
    Calls Tryd.prog 16 #[.agg #[.int .i64 (N : Int), .slice a ws.length cap]] w fun r w' => (∃ v, r = .returned v ∧ w'.ownsRow w.heap.size 3 1 v (placesL ws N 0 true).length ((placesL ws N 0 true).map fun n : Nat => .int .i64 (n : Int))) ∧ Below w.heap.size w w' := by
  obtain ⟨i0, hi, hz0, hz1, hz2⟩ := info_parts intInfo
  obtain ⟨w1, hw1, a0, a1, a2⟩ := allocs1 w (.cells #[.int .i64 (N : Int), .slice a ws.length cap] 24)
  obtain ⟨w2, hw2, b0, b1, b2⟩ := allocs1 w1 (.cells #[.slice none 0 0] 33)
  have R := right_any2 (n := (N : Int)) ((hv.below a0).below b0)
  rw [hr] at R
  have b3 := (b0.block _ (block_lt a2)).trans a2
  have c0 := cells_cell (i := 0) b3 (v := .int .i64 (N : Int)) rfl
  have c1 := cells_cell (i := 1) b3 (v := .slice a ws.length cap) rfl
  have H1 := Lib.hid hw1
  have H2 := Lib.hid hw2
  have HR := Lib.hid hr
  have HV := Lib.hid ((hv.below a0).below b0)
  have hbl := fun h0 b hb => hv.block_lt h0 b hb
  have HA1 := Lib.hid a1
  have HB1 := Lib.hid b1
  have HBL := Lib.hid hbl
  clear hr hw1 hw2 hv hbl a1 b1
  refine calls_of_wp_marks Tryd.func16 rfl ?_
  simp only [Tryd.ntmps16, List.size_toArray, List.length_cons, List.length_nil, Nat.reduceAdd, Nat.reduceSub, Array.replicate_succ, Array.replicate_zero, List.push_toArray, List.append_toArray, List.nil_append, List.cons_append]
  go_wp2_with fail
  rw [H1.out, H2.out]
  refine R.mono ?_
  rintro r w3 ⟨rfl, hb3⟩
  have hv3 := HV.out.below hb3
  have d3 := (hb3.block _ (block_lt b3)).trans b3
  have b2' := (hb3.block _ (block_lt b2)).trans b2
  rw [HA1.out] at b2'
  have d0 := cells_cell (i := 0) d3 (v := .int .i64 (N : Int)) rfl
  have d1 := cells_cell (i := 1) d3 (v := .slice a ws.length cap) rfl
  obtain ⟨W0, hW0, e0, e1, e2, e3, e4⟩ := allocs3 w3 (.cells #[.int .i64 (N : Int), .slice a ws.length cap] 24) (.cells #[.int .i64 0] 3) (.cells #[.bool true] 4)
  have hsz3 : w.heap.size + 1 < w3.heap.size := block_lt b2'
  have hPl := places_any (N : Int) 0 (.slice a ws.length cap) true w3
  have hG := places1_gives (w := W0) (S := fun k => k = w.heap.size + 1) e2 (cells_cell (i := 0) e3 (v := .int .i64 0) rfl) (cells_cell (i := 0) e4 (v := .bool true) rfl) (hv3.below e0) hN hN2
    (fun k hk => ⟨by omega, by omega, by omega, fun h0 b hb => by have := HBL.out h0 b hb; omega⟩)
  have bx : W0.heap[w.heap.size + 1]? = some (.cells #[.slice none 0 0] 33 (0, 0)) := (e0.block _ hsz3).trans b2'
  have bw : Below (w.heap.size + 1) w1 W0 := by
    have h1 : Below w1.heap.size w1 W0 := (b0.trans (hb3.mono b0.size)).trans (e0.mono (by have := b0.size; have := hb3.size; omega))
    rw [HA1.out] at h1
    exact h1
  have hle : w.heap.size + 1 ≤ W0.heap.size := by omega
  clear R c0 c1 b0 b2 b3 b2' d3 hv3 hb3 e2 e3 e4 HV
  have E1 := Lib.hid e1
  clear e1
  go_wp2_with (go_at_call 39; refine hPl.mono ?_; rintro r w4 ⟨rfl, rfl⟩)
  try rw [hW0]
  clear hW0 hPl d0 d1
  have e1 := E1.out
  refine rf_wp (gf := 47) (lb := #[.pointer (some ⟨w3.heap.size, 0, none⟩), .pointer (some ⟨w3.heap.size + 1, 0, none⟩), .pointer (some ⟨w3.heap.size + 1 + 1, 0, none⟩)]) rfl (enters_of Tryd.func47 (by kernel_rfl) rfl) ?_
  intro D L W1 hD hRf hB1 hsz hK hL
  have hS1 : Sam (fun k => k = w.heap.size + 1) W0 W1 := (Sam.refl _ W0).below hB1
  have h0 : Col w1 (w.heap.size + 1) D (L .ready none) 33 3 1 0 [] W1 :=
    ⟨bw.trans (hB1.mono hle), by omega, by omega, ⟨_, (hB1.block _ (by omega)).trans bx, World.ownsRow_nil _ _ _ _⟩, hK, hL⟩
  refine (hG (D + 1) (fun pre W => Col w1 (w.heap.size + 1) D (L .ready none) 33 3 1 pre.length (pre.map fun n : Nat => .int .i64 (n : Int)) W) (fun _ => False) W1 hS1 (fun _ _ _ h hb => h.next hb) (fun _ _ h _ => h.elim) ?_ h0).mono ?_
  · intro pre x post W hxs hC hS
    refine (?_ : YieldAt Fence.wide 8 _ _ _ W fun e W' => e = .returned (.bool true) ∧ Col w1 (w.heap.size + 1) D (L .ready none) 33 3 1 (pre ++ [x]).length ((pre ++ [x]).map fun n : Nat => .int .i64 (n : Int)) W' ∧ Sam (fun k => k = w.heap.size + 1) W0 W').mono fun e W' h => .inl h
    have hlen : pre.length < 20000 := by
      have := placesL_len ws N 0 true
      rw [hxs] at this
      simp at this
      omega
    have hD1 : W0.heap.size ≤ D := by omega
    clear hxs hG h0 hS1 e1 hD hsz
    refine hRf.round _ _ _ rfl hC.loop ?_
    gi_wp2
    refine ⟨hC.loop, ?_⟩
    have hC2 := hC.put (hRf.cells _ _) (L .busy none)
    have hS2 := hS.put (l := D + 1) (L .busy none) (by omega)
    clear hC hS
    generalize W.putObj (D + 1) (L .busy none) = W2 at *
    obtain ⟨v, hv, hrow⟩ := hC2.box
    have c1 := hv.cell
    gi_wp2_with (gi_at_builtin; refine wpListIn_append_own _ rfl _ _ 33 rfl D 3 i0 (.int .i64 0) 1 8 Tryd.underlying33 hi hz0 hz1 hz2 rfl (by decide) _ _ _ rfl (hrow.alloc _) ⟨W2.heap.size, 0, none⟩ 1 1 [.int .i64 (x : Int)] rfl rfl (cell_one_new _ _ _) (by simp [Value.oneCell']) (by unfold maxLen; omega) (by omega) (by have := hC2.base; have := block_lt hC2.marks; simp; omega) ?_; intro v' w1 hown' hgrow _; obtain ⟨g', cap', rfl⟩ := ownsRow_succ hown'; obtain ⟨hv1, hC3, hS3⟩ := hC2.appended hv hrow (by decide) (hRf.cells _ _) hS2 (by omega) hown' hgrow; have hc1 := hv1.cell; have hf1 := hv1.frozen)
    have hC4 := hC3.put (hRf.cells _ _) (L .ready none)
    have hS4 := hS3.put (l := D + 1) (L .ready none) (by omega)
    refine ⟨hC3.loop, rfl, ?_, hS4⟩
    rw [List.length_append, List.map_append]
    exact hC4
  · rintro e W ⟨hv, (hC | hF)⟩
    · refine ⟨hv, hC.marks, .inl ⟨hC.loop, ?_⟩⟩
      have hC2 := hC.put (hRf.cells _ _) (L .exhausted none)
      have hDw : w.heap.size ≤ D := by omega
      have hA1 : w.heap.size ≤ w1.heap.size := by rw [HA1.out]; omega
      clear hC h0 hG hS1 e1 hD hsz
      generalize W.putObj (D + 1) (L .exhausted none) = W2 at *
      obtain ⟨v, hv, hrow⟩ := hC2.box
      have c1 := hv.cell
      go_wp2
      refine bodyPostR_ret (D := D) hC2.marks (results_tmp rfl _ _ _) ⟨⟨_, rfl, ?_⟩, ?_⟩
      · exact ownsRow_putObj (ownsRow_down hrow hDw) _ hC2.marks rfl
      · exact below_putObj (a0.trans (hC2.below.mono (by omega))) _ hC2.marks hDw
    · exact hF.elim

def listI (n : Int) (ws : List Nat) : List Int := bif rightB n ws then (placesL ws n.toNat 0 true).map (fun k : Nat => (k : Int)) else []

set_option maxHeartbeats 1000000 in
theorem list_wrong {w : World} {n : Int} {a : Option Addr} {cap : Nat} {ws : List Nat} (hv : WordsV w (.slice a ws.length cap) ws) (hr : rightB n ws = false) :
    Calls Tryd.prog 16 #[.agg #[.int .i64 n, .slice a ws.length cap]] w fun r w' => r = .returned (.slice none 0 0) ∧ Below w.heap.size w w' := by
  obtain ⟨w1, hw1, a0, a1, a2⟩ := allocs1 w (.cells #[.int .i64 n, .slice a ws.length cap] 24)
  obtain ⟨w2, hw2, b0, b1, b2⟩ := allocs1 w1 (.cells #[.slice none 0 0] 33)
  have R := right_any2 (n := n) ((hv.below a0).below b0)
  rw [hr] at R
  have b3 := (b0.block _ (block_lt a2)).trans a2
  have c0 := cells_cell (i := 0) b3 (v := .int .i64 n) rfl
  have c1 := cells_cell (i := 1) b3 (v := .slice a ws.length cap) rfl
  rw [a1] at b2
  have hbb : Below w.heap.size w w2 := a0.trans (b0.mono a0.size)
  have H1 := Lib.hid hw1
  have H2 := Lib.hid hw2
  clear hr hw1 hw2 hv a0 a1 a2 b0 b1 b3
  refine calls_of_wp_marks Tryd.func16 rfl ?_
  simp only [Tryd.ntmps16, List.size_toArray, List.length_cons, List.length_nil, Nat.reduceAdd, Nat.reduceSub, Array.replicate_succ, Array.replicate_zero, List.push_toArray, List.append_toArray, List.nil_append, List.cons_append]
  go_wp2_with fail
  rw [H1.out, H2.out]
  refine R.mono ?_
  rintro r w3 ⟨rfl, hb3⟩
  have b4 := (hb3.block _ (block_lt b2)).trans b2
  have d0 := cells_cell (i := 0) b4 (v := .slice none 0 0) rfl
  have hb := hbb.trans (hb3.mono hbb.size)
  clear R c0 c1 b2 b4 hbb hb3 H1 H2
  go_wp2
  exact bodyPostR_ret0 (results_tmp rfl _ _ _) ⟨rfl, hb⟩

theorem list_any {w : World} {n : Int} {v : Value} {ws : List Nat} (hv : WordsV w v ws) :
    Calls Tryd.prog 16 #[.agg #[.int .i64 n, v]] w fun r w' => (∃ v', r = .returned v' ∧ IntsV w' v' (listI n ws)) ∧ Below w.heap.size w w' := by
  obtain ⟨a, cap, rfl⟩ := hv.slice
  unfold listI
  cases hr : rightB n ws with
  | false => exact (list_wrong hv hr).mono fun r w' ⟨h1, h2⟩ => ⟨⟨_, h1, .empty none 0⟩, h2⟩
  | true =>
    obtain ⟨N, rfl, h1, h2, h3⟩ := rightB_iff hr
    rw [Int.toNat_natCast]
    refine (list_right hv hr h1 (by omega)).mono fun r w' ⟨⟨v, h1, h2⟩, h3⟩ => ⟨⟨v, h1, ?_⟩, h3⟩
    refine IntsV.of_row (e := 3) (base := w.heap.size) (k := (placesL ws N 0 true).length) ?_
    show w'.ownsRow _ _ _ _ _ (((placesL ws N 0 true).map fun k : Nat => (k : Int)).map fun x : Int => Value.int .i64 x)
    rw [List.map_map]
    exact h2

theorem count_any2 {w : World} {n : Int} {v : Value} {ws : List Nat} (hv : WordsV w v ws) :
    Calls Tryd.prog 18 #[.agg #[.int .i64 n, v]] w fun r w' => r = .returned (.int .i64 ((listI n ws).length : Int)) ∧ Below w.heap.size w w' := by
  obtain ⟨w1, hw1, a0, a1, a2⟩ := allocs1 w (.cells #[.int .i64 n, v] 24)
  have L := list_any (n := n) (hv.below a0)
  have c0 := cells_cell (i := 0) a2 (v := .int .i64 n) rfl
  have c1 := cells_cell (i := 1) a2 (v := v) rfl
  obtain ⟨a, cap, rfl⟩ := hv.slice
  clear hv a1 a2
  go_enter Tryd.func18, Tryd.ntmps18
  go_wp2_with fail
  refine L.mono ?_
  rintro r w2 ⟨⟨v2, rfl, hv2⟩, hb⟩
  obtain ⟨a', cap', rfl⟩ := hv2.slice
  have hbb := a0.trans (hb.mono a0.size)
  clear hv2 L hb c0 c1
  go_wp2
  go_ret
  exact ⟨rfl, hbb⟩

def hasB (n : Int) (ws : List Nat) (i : Int) : Bool := rightB n ws && (decide (0 ≤ i) && (decide (i < n) && onB ws i.toNat))

set_option maxHeartbeats 400000 in
theorem has_any {w : World} {n : Int} {v : Value} {ws : List Nat} (hv : WordsV w v ws) (i : Int) :
    Calls Tryd.prog 15 #[.agg #[.int .i64 n, v], .int .i64 i] w fun r w' => r = .returned (.bool (hasB n ws i)) ∧ Below w.heap.size w w' := by
  obtain ⟨w1, hw1, a0, a1, a2⟩ := allocs1 w (.cells #[.int .i64 n, v] 24)
  have R := right_any2 (n := n) (hv.below a0)
  have c0 := cells_cell (i := 0) a2 (v := .int .i64 n) rfl
  have c1 := cells_cell (i := 1) a2 (v := v) rfl
  obtain ⟨a, cap, rfl⟩ := hv.slice
  cases hr : rightB n ws with
  | false =>
    rw [hr] at R
    have e : hasB n ws i = false := by unfold hasB; rw [hr]; rfl
    rw [e]
    clear hv a1 a2 hr e
    go_enter Tryd.func15, Tryd.ntmps15
    go_wp2_with fail
    refine R.mono ?_
    rintro r w2 ⟨rfl, hb⟩
    have hbb := a0.trans (hb.mono a0.size)
    clear R hb c0 c1
    go_wp2
    go_ret
    exact ⟨rfl, hbb⟩
  | true =>
    rw [hr] at R
    obtain ⟨N, rfl, hN1, hN2, hN3⟩ := rightB_iff hr
    have HV := Lib.hid (hv.below a0)
    by_cases h0 : 0 ≤ i
    · by_cases h1 : i < (N : Int)
      · obtain ⟨k, rfl⟩ : ∃ k : Nat, i = k := ⟨i.toNat, by omega⟩
        have e : hasB (N : Int) ws (k : Int) = onB ws k := by unfold hasB; rw [hr, decide_eq_true h0, decide_eq_true h1, Int.toNat_natCast]; rfl
        rw [e]
        have g0 : decide ((0 : Int) ≤ (k : Int)) = true := decide_eq_true h0
        have g1 : decide ((k : Int) < (N : Int)) = true := decide_eq_true h1
        have g2 : decide (k < N) = true := decide_eq_true (by omega)
        have hk32 : k < 32 * ws.length := by omega
        have I : ∀ W, Below w1.heap.size w1 W → Calls Tryd.prog 38 #[.agg #[.int .i64 (N : Int), .slice a ws.length cap], .int .i64 (k : Int)] W fun r w' => r = .returned (.bool (onB ws k)) ∧ Below W.heap.size W w' := fun W hb => (isOn_any (n := (N : Int)) (HV.out.below hb) k hk32).mono fun r w' ⟨h1, h2⟩ => ⟨h1, by rw [h2]; exact (Below.refl _ _).alloc (Nat.le_refl _) _⟩
        generalize onB ws k = q at *
        have HI := Lib.hid I
        clear hv a1 hr e h0 h1 hN3 I hN2
        go_enter Tryd.func15, Tryd.ntmps15
        go_wp2_with fail
        refine R.mono ?_
        rintro r w2 ⟨rfl, hb⟩
        have hbb := a0.trans (hb.mono a0.size)
        have a3 := (hb.block _ (block_lt a2)).trans a2
        have d0 := cells_cell (i := 0) a3 (v := .int .i64 (N : Int)) rfl
        have d1 := cells_cell (i := 1) a3 (v := .slice a ws.length cap) rfl
        have I2 := HI.out w2 hb
        clear R hb c0 c1 a2 a3 HI
        go_wp2_with fail
        refine I2.mono ?_
        rintro r w3 ⟨rfl, hb3⟩
        have hb4 := hbb.trans (hb3.mono hbb.size)
        clear I2 hb3 hbb d0 d1
        go_wp2
        go_ret
        exact ⟨by cases q <;> rfl, hb4⟩
      · have e : hasB (N : Int) ws i = false := by unfold hasB; rw [hr, decide_eq_true h0, decide_eq_false (show ¬ i < (N : Int) by omega)]; rfl
        rw [e]
        have g0 : decide (0 ≤ i) = true := decide_eq_true h0
        have g1 : decide (i < (N : Int)) = false := decide_eq_false (by omega)
        clear hv a1 hr e h0 h1 hN3 hN2
        go_enter Tryd.func15, Tryd.ntmps15
        go_wp2_with fail
        refine R.mono ?_
        rintro r w2 ⟨rfl, hb⟩
        have hbb := a0.trans (hb.mono a0.size)
        have a3 := (hb.block _ (block_lt a2)).trans a2
        have d0 := cells_cell (i := 0) a3 (v := .int .i64 (N : Int)) rfl
        clear R hb c0 c1 a2 a3
        go_wp2
        go_ret
        exact ⟨rfl, hbb⟩
    · have e : hasB (N : Int) ws i = false := by unfold hasB; rw [hr, decide_eq_false (show ¬ 0 ≤ i by omega)]; rfl
      rw [e]
      have g0 : decide (0 ≤ i) = false := decide_eq_false (by omega)
      clear hv a1 hr e h0 hN3 hN2
      go_enter Tryd.func15, Tryd.ntmps15
      go_wp2_with fail
      refine R.mono ?_
      rintro r w2 ⟨rfl, hb⟩
      have hbb := a0.trans (hb.mono a0.size)
      clear R hb c0 c1 a2
      go_wp2
      go_ret
      exact ⟨rfl, hbb⟩
end Go.Proofs.YtlncilcoohmlkaaDoor

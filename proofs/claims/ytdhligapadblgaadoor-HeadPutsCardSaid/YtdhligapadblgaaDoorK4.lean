/- Layer head: Encode. -/
import Derived.Test.YtdhligapadblgaaDoorK3
import Derived.Laws.IdiomStrings
namespace Go.Proofs.YtdhligapadblgaaDoor
open Go Go.RowKit Go.Shelf
attribute [local go_sem ↓] Go.wp_at_zero Go.wp_at_succ
attribute [local go_sem] Oper.semAt_some

/-- The bytes of a head, as a string's. -/
def headU (k c e l : Nat) : List UInt8 := (headL k c e l).map UInt8.ofNat
def encS (k c e l : Nat) : ByteArray := ⟨(headU k c e l).toArray⟩

theorem u8Info : (Tryd.prog.info? 5).map (fun i => (i.zero, i.size, i.bytes)) = some (some (.int .u8 0), 1, 1) := by kernel_rfl
theorem headL_lt (k c e l : Nat) : ∀ x ∈ headL k c e l, x < 256 := by
  intro x hx
  have h : ∀ n, n % 256 < 256 := fun n => Nat.mod_lt _ (by decide)
  simp only [headL, headN, List.cons_append, List.nil_append, List.mem_cons, List.not_mem_nil, or_false] at hx
  rcases hx with rfl | rfl | rfl | rfl | rfl | rfl | rfl | rfl
  · decide
  all_goals first | exact h _ | skip
  unfold headX
  exact xor_lt8 (xor_lt8 (xor_lt8 (xor_lt8 (xor_lt8 (xor_lt8 (by decide) (h _)) (h _)) (h _)) (h _)) (h _)) (h _)

set_option maxHeartbeats 4000000 in
set_option maxRecDepth 40000 in
theorem encode_right {E : EnvH} {w : World} (hG : GlobH E w) {k c e l : Nat} (hr : rightM (k : Int) (l : Int) (c : Int) (e : Int) = true) (hk : k ≤ 1000000) (hc : c ≤ 1000000) (he : e ≤ 1000000) (hl : l ≤ 1000000) :
    Calls Tryd.prog 10 #[.agg #[.int .i64 (k : Int), .int .i64 (l : Int), .int .i64 (c : Int), .int .i64 (e : Int)]] w fun r w' => r = .returned (.tuple #[.string (encS k c e l), .int .i64 0]) ∧ Below w.heap.size w w' := by
  obtain ⟨i0, hi, hz0, hz1, hz2⟩ := info_parts u8Info
  obtain ⟨w1, hw1, a0, a1, a2⟩ := allocs1 w (.cells #[.int .i64 (k : Int), .int .i64 (l : Int), .int .i64 (c : Int), .int .i64 (e : Int)] 23)
  have R := right_anyH (hG.below a0) (k : Int) (l : Int) (c : Int) (e : Int)
  rw [hr] at R
  have c0 := cells_cell (i := 0) a2 (v := .int .i64 (k : Int)) rfl
  have c1 := cells_cell (i := 1) a2 (v := .int .i64 (l : Int)) rfl
  have c2 := cells_cell (i := 2) a2 (v := .int .i64 (c : Int)) rfl
  have c3 := cells_cell (i := 3) a2 (v := .int .i64 (e : Int)) rfl
  have hG1 := hG.below a0
  clear hr a1 hG
  refine calls_of_wp_marks Tryd.func10 rfl ?_
  simp only [Tryd.ntmps10, List.size_toArray, List.length_cons, List.length_nil, Nat.reduceAdd, Nat.reduceSub, Array.replicate_succ, Array.replicate_zero, List.push_toArray, List.append_toArray, List.nil_append, List.cons_append]
  go_wp2_with fail
  refine R.mono ?_
  rintro r w3 ⟨rfl, hb3⟩
  have hB3 := blH a0 hb3
  have hG3 := hG1.below hb3
  have b1 := (hb3.block _ (block_lt a2)).trans a2
  have d0 := cells_cell (i := 0) b1 (v := .int .i64 (k : Int)) rfl
  have d1 := cells_cell (i := 1) b1 (v := .int .i64 (l : Int)) rfl
  have d2 := cells_cell (i := 2) b1 (v := .int .i64 (c : Int)) rfl
  have d3 := cells_cell (i := 3) b1 (v := .int .i64 (e : Int)) rfl
  obtain ⟨W0, hW0, e0, e1, e2, e3, e4⟩ := allocs3 w3 (.cells #[.slice none 0 0] 34) (.cells #[.int .i64 (k : Int), .int .i64 (l : Int), .int .i64 (c : Int), .int .i64 (e : Int)] 62) (.cells #[.pointer (some ⟨w3.heap.size + 1, 0, none⟩)] 60)
  have hGs := hG3.size
  have hsz3 : w.heap.size < w3.heap.size := block_lt b1
  have hG0 := hG3.below e0
  have hPl := bytes_any (w3.heap.size + 1) ((w3.alloc (.cells #[.slice none 0 0] 34)).alloc (.cells #[.int .i64 (k : Int), .int .i64 (l : Int), .int .i64 (c : Int), .int .i64 (e : Int)] 62))
  have hGv := bytes1_gives (w := W0) (S := fun j => j = w3.heap.size) (C := w3.heap.size + 1 + 1) (B := w3.heap.size + 1) (cells_cell (i := 0) e4 (v := .pointer (some ⟨w3.heap.size + 1, 0, none⟩)) rfl) e3 hG0.t2 hG0.t5 hG0.t8 hG0.t11 (by omega) (by omega) (by omega) hk hc he hl
  clear R c0 c1 c2 c3 hb3 a0 a2 b1 hG1 hG3 hG0 e3 e4 hw1
  have E1 := Lib.hid e1
  clear e1
  go_wp2_with (go_at_call 31; refine hPl.mono ?_; rintro r w4 ⟨rfl, rfl⟩)
  have e1 := E1.out
  refine rf_wp (gf := 44) (lb := #[.pointer (some ⟨w3.heap.size + 1 + 1, 0, none⟩)]) rfl (enters_of Tryd.func44 (by kernel_rfl) rfl) ?_
  intro D L W1 hD hRf hB1 hsz hK hL
  have hS1 : Sam (fun j => j = w3.heap.size) W0 W1 := (Sam.refl _ W0).below hB1
  have h0 : Col w3 w3.heap.size D (L .ready none) 34 5 1 0 [] W1 :=
    ⟨e0.trans (hB1.mono e0.size), by omega, by omega, ⟨_, (hB1.block _ (by omega)).trans e2, World.ownsRow_nil _ _ _ _⟩, hK, hL⟩
  clear hPl d0 d1 d2 d3 hW0
  refine (hGv (D + 1) (fun pre W => Col w3 w3.heap.size D (L .ready none) 34 5 1 pre.length (pre.map fun n : Nat => .int .u8 (n : Int)) W) W1 hS1 (fun _ _ _ h hb => h.next hb) ?_ h0).mono ?_
  · intro pre x post W hxs hC hS
    have hlen : pre.length < 20000 := by
      have : (headL k c e l).length = 8 := rfl
      rw [hxs] at this
      simp at this
      omega
    have hD1 : W0.heap.size ≤ D := by omega
    clear hxs hGv h0 hS1 e1 hD hsz
    refine hRf.round _ _ _ rfl hC.loop ?_
    gi_wp2
    refine ⟨hC.loop, ?_⟩
    have hC2 := hC.put (hRf.cells _ _) (L .busy none)
    have hS2 := hS.put (l := D + 1) (L .busy none) (by omega)
    clear hC hS
    generalize W.putObj (D + 1) (L .busy none) = W2 at *
    obtain ⟨v, hv, hrow⟩ := hC2.box
    have c1 := hv.cell
    gi_wp2_with (gi_at_builtin; refine wpListIn_append_own _ rfl _ _ 34 rfl D 5 i0 (.int .u8 0) 1 1 Tryd.underlying34 hi hz0 hz1 hz2 rfl (by decide) _ _ _ rfl (hrow.alloc _) ⟨W2.heap.size, 0, none⟩ 1 1 [.int .u8 (x : Int)] rfl rfl (cell_one_new _ _ _) (by simp [Value.oneCell']) (by unfold maxLen; omega) (by omega) (by have := hC2.base; have := block_lt hC2.marks; simp; omega) ?_; intro v' w1 hown' hgrow _; obtain ⟨g', cap', rfl⟩ := ownsRow_succ hown'; obtain ⟨hv1, hC3, hS3⟩ := hC2.appended hv hrow (by decide) (hRf.cells _ _) hS2 (by omega) hown' hgrow; have hc1 := hv1.cell; have hf1 := hv1.frozen)
    have hC4 := hC3.put (hRf.cells _ _) (L .ready none)
    have hS4 := hS3.put (l := D + 1) (L .ready none) (by omega)
    refine ⟨hC3.loop, rfl, ?_, hS4⟩
    rw [List.length_append, List.map_append]
    exact hC4
  · rintro r W ⟨hv, hC⟩
    refine ⟨hv, hC.marks, .inl ⟨hC.loop, ?_⟩⟩
    have hC2 := hC.put (hRf.cells _ _) (L .exhausted none)
    have hDw : w.heap.size ≤ D := by omega
    clear hC h0 hGv hS1 e1 hD hsz
    generalize W.putObj (D + 1) (L .exhausted none) = W2 at *
    obtain ⟨v, hv, hrow⟩ := hC2.box
    have c1 := hv.cell
    rw [show (headL k c e l).length = 8 from rfl] at hrow
    rcases hrow.2 with ⟨rfl, h0⟩ | ⟨g, cap, cur, rfl, hbg, hg, q1, q2, q3, q4⟩
    · exact absurd h0 (by decide)
    · have hu : ∀ j (hj : j < (headU k c e l).length), W2.cell? ((⟨g, 0, none⟩ : Addr).add j) = some (.int .u8 (((headU k c e l)[j].toNat : Nat) : Int)) := by
        intro j hj
        have hj8 : j < 8 := hj
        have hjl : j < (headL k c e l).length := hj8
        rw [Addr.add_lit, Nat.zero_add]
        refine cells_cell hg ?_
        have h5 : (cur.toList.take (8 * 1))[j]? = some (Value.int .u8 (((headL k c e l)[j] : Nat) : Int)) := by rw [q4]; simp [hjl]
        rw [List.getElem?_take, if_pos (by omega)] at h5
        have h6 : ((headU k c e l)[j]).toNat = (headL k c e l)[j] := by
          have : (headL k c e l)[j] < 256 := headL_lt k c e l _ (List.getElem_mem _)
          simp [headU]; omega
        have h7 : cur[j]? = some (Value.int .u8 (((headL k c e l)[j] : Nat) : Int)) := by simpa using h5
        exact h7.trans (congrArg (fun z : Nat => some (Value.int .u8 (z : Int))) h6.symm)
      have hcv := run_convert_bytes_back W2 34 9 5 ⟨g, 0, none⟩ cap (headU k c e l) Tryd.underlying34 Tryd.underlying5 Tryd.underlying9 hu
      rw [show (headU k c e l).length = 8 from rfl] at hcv
      have HB := Lib.hid hC2.below
      have HM := Lib.hid hC2.marks
      clear hu hrow hv
      go_wp2
      refine bodyPostR_ret (D := D) HM.out (results_tmp2 rfl _ _ _) ⟨rfl, ?_⟩
      exact below_putObj (blH hB3 HB.out) _ HM.out hDw
end Go.Proofs.YtdhligapadblgaaDoor

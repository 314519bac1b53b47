/- Layer head: Decode for all texts; Put where there is no arena; what the laws show first. -/
import Derived.Test.YtdhligapadblgaaDoorK5
namespace Go.Proofs.YtdhligapadblgaaDoor
open Go Go.RowKit Go.Shelf
attribute [local go_sem ↓] Go.wp_at_zero Go.wp_at_succ

def markV (k l c e : Int) : Value := .agg #[.int .i64 k, .int .i64 l, .int .i64 c, .int .i64 e]
def decX (b : Bool) (x : Int) : Int := bif b then x else 0
def decE (s : ByteArray) : Int := bif decB s then 0 else 60
theorem decode_any {E : EnvH} {w : World} (hG : GlobH E w) (s : ByteArray) :
    Calls Tryd.prog 12 #[.string s] w fun r w' => r = .returned (.tuple #[.agg #[.int .i64 (decX (decB s) (decK s)), .int .i64 (decX (decB s) (decL s)), .int .i64 (decX (decB s) (decC s)), .int .i64 (decX (decB s) (decT s))], .int .i64 (decE s)]) ∧ Below w.heap.size w w' := by
  by_cases hs : s.size = 8
  · refine (decode_eight hG s hs).mono fun r w' ⟨h1, h2⟩ => ⟨?_, h2⟩
    rw [h1]
    unfold decE decX
    cases decB s <;> rfl
  · have hb : decB s = false := by unfold decB; rw [decide_eq_false hs]; rfl
    refine (decode_size hG s hs).mono fun r w' ⟨h1, h2⟩ => ⟨?_, h2⟩
    rw [h1]
    unfold decE decX
    rw [hb]
    rfl

theorem told_nil {E : EnvH} {w : World} (h : GlobH E w) : Calls Tryd.prog 30 #[.slice (some ⟨w.heap.size, 0, none⟩) 1 1] (w.alloc (.cells #[.iface 107 (.pointer (some E.aNil))] 57)) fun r w' => r = .returned (.int .i64 1) ∧ w.alloc (.cells #[.iface 107 (.pointer (some E.aNil))] 57) = w' := told_oneH h .nil 1 57

theorem there_nil {E : EnvH} {w : World} (h : GlobH E w) : Calls Tryd.prog 37 #[.pointer none] w fun r w' => r = .returned (.iface 107 (.pointer (some E.aNil))) ∧ w = w' := by
  have k0 : w.cell? ⟨3, 0, none⟩ = some (.iface 107 (.pointer (some E.aNil))) := h.cNil
  clear h
  go_enter Tryd.func37, Tryd.ntmps37
  go_wp2
  go_ret
  exact ⟨rfl, rfl⟩

set_option maxHeartbeats 1000000 in
set_option maxRecDepth 20000 in
theorem put_nil {E : EnvH} {w : World} (hG : GlobH E w) (a k l c e : Int) :
    Calls Tryd.prog 22 #[.pointer none, .int .i64 a, .agg #[.int .i64 k, .int .i64 l, .int .i64 c, .int .i64 e]] w fun r w' => r = .returned (.int .i64 1) ∧ Below w.heap.size w w' := by
  obtain ⟨w1, hw1, a0, a1, a2⟩ := allocs1 w (.cells #[.int .i64 k, .int .i64 l, .int .i64 c, .int .i64 e] 23)
  have hG1 := hG.below a0
  have ENC := encode_any hG1 k l c e
  have c0 := cells_cell (i := 0) a2 (v := .int .i64 k) rfl
  have c1 := cells_cell (i := 1) a2 (v := .int .i64 l) rfl
  have c2 := cells_cell (i := 2) a2 (v := .int .i64 c) rfl
  have c3 := cells_cell (i := 3) a2 (v := .int .i64 e) rfl
  generalize encI k l c e = x at *
  generalize encE k l c e = y at *
  clear hG a1 a2
  go_enter Tryd.func22, Tryd.ntmps22
  go_wp2_with fail
  refine ENC.mono ?_
  rintro r w2 ⟨rfl, hb⟩
  have hG2 := hG1.below hb
  have hB2 := blH a0 hb
  have TH := there_nil hG2
  have T := told_nil hG2
  clear ENC c0 c1 c2 c3 hb a0 hG1 hw1
  go_wp2_with fail
  refine TH.mono ?_
  rintro r w3 ⟨rfl, rfl⟩
  clear TH
  go_wp2_with (go_at_call 30; refine T.mono ?_; rintro r w' ⟨rfl, rfl⟩)
  go_ret
  exact ⟨rfl, hB2.alloc hB2.size _⟩

set_option maxHeartbeats 2000000 in
set_option maxRecDepth 20000 in
theorem shown_anyH {E : EnvH} {w : World} (hG : GlobH E w) :
    Calls Tryd.prog 9 #[] w fun r w' => r = .returned (.bool true) ∧ Below w.heap.size w w' := by
  have E1 := encode_any hG 2 300 1 7
  rw [show encE 2 300 1 7 = 0 by decide +kernel, show encI 2 300 1 7 = ⟨#[181, 2, 1, 7, 44, 1, 0, 156]⟩ by kernel_rfl] at E1
  go_enter Tryd.func9, Tryd.ntmps9
  go_wp2_with fail
  refine E1.mono ?_
  rintro r w1 ⟨rfl, hb1⟩
  have hG1 := hG.below hb1
  have D1 := decode_any hG1 ⟨#[181, 2, 1, 7, 44, 1, 0, 156]⟩
  have q1 : decB ⟨#[181, 2, 1, 7, 44, 1, 0, 156]⟩ = true := by kernel_rfl
  have q2 : decK ⟨#[181, 2, 1, 7, 44, 1, 0, 156]⟩ = 2 := by kernel_rfl
  have q3 : decL ⟨#[181, 2, 1, 7, 44, 1, 0, 156]⟩ = 300 := by kernel_rfl
  have q4 : decC ⟨#[181, 2, 1, 7, 44, 1, 0, 156]⟩ = 1 := by kernel_rfl
  have q5 : decT ⟨#[181, 2, 1, 7, 44, 1, 0, 156]⟩ = 7 := by kernel_rfl
  have q6 : decE ⟨#[181, 2, 1, 7, 44, 1, 0, 156]⟩ = 0 := by kernel_rfl
  rw [q1, q2, q3, q4, q5, q6] at D1
  change Calls _ _ _ _ (fun r w' => r = .returned (.tuple #[.agg #[.int .i64 2, .int .i64 300, .int .i64 1, .int .i64 7], .int .i64 0]) ∧ _) at D1
  clear q1 q2 q3 q4 q5 q6 E1 hG
  go_wp2_with fail
  refine D1.mono ?_
  rintro r w2 ⟨rfl, hb2⟩
  have hB2 := blH hb1 hb2
  obtain ⟨w3, hw3, e0, -, e1⟩ := allocs1 w2 (.cells #[.int .i64 2, .int .i64 300, .int .i64 1, .int .i64 7] 23)
  have hG3 := (hG1.below hb2).below e0
  have hB3 := blH hB2 e0
  have D2 := decode_any hG3 ⟨#[181, 2, 1, 7, 44, 1, 0, 157]⟩
  have q1 : decB ⟨#[181, 2, 1, 7, 44, 1, 0, 157]⟩ = false := by kernel_rfl
  have q6 : decE ⟨#[181, 2, 1, 7, 44, 1, 0, 157]⟩ = 60 := by kernel_rfl
  rw [q1, q6] at D2
  change Calls _ _ _ _ (fun r w' => r = .returned (.tuple #[.agg #[.int .i64 0, .int .i64 0, .int .i64 0, .int .i64 0], .int .i64 60]) ∧ _) at D2
  clear q1 q6 D1 hb1 hb2 hB2 hG1 e0
  go_wp2_with fail
  refine D2.mono ?_
  rintro r w4 ⟨rfl, hb4⟩
  obtain ⟨w5, hw5, g0, -, g1⟩ := allocs1 w4 (.cells #[.int .i64 0, .int .i64 0, .int .i64 0, .int .i64 0] 23)
  have hB5 := blH (blH hB3 hb4) g0
  have hG5 := (hG3.below hb4).below g0
  have b5 := (g0.block _ (block_lt ((hb4.block _ (block_lt e1)).trans e1))).trans ((hb4.block _ (block_lt e1)).trans e1)
  have c0 := cells_cell (i := 0) b5 (v := .int .i64 2) rfl
  have c1 := cells_cell (i := 1) b5 (v := .int .i64 300) rfl
  have c2 := cells_cell (i := 2) b5 (v := .int .i64 1) rfl
  have c3 := cells_cell (i := 3) b5 (v := .int .i64 7) rfl
  have b4 := (hb4.block _ (block_lt e1)).trans e1
  have x0 := cells_cell (i := 0) b4 (v := .int .i64 2) rfl
  have x1 := cells_cell (i := 1) b4 (v := .int .i64 300) rfl
  have x2 := cells_cell (i := 2) b4 (v := .int .i64 1) rfl
  have x3 := cells_cell (i := 3) b4 (v := .int .i64 7) rfl
  have hlt : w2.heap.size < w4.heap.size := block_lt b4
  clear b4
  have T := turn_anyH hG5 255
  rw [show turnI 255 = 0 by decide] at T
  have H5 := Lib.hid hw5
  clear D2 hG3 hB3 hb4 e1 g0 g1 hw3 hw5
  go_wp2_with fail
  rw [H5.out]
  refine T.mono ?_
  rintro r w6 ⟨rfl, hb6⟩
  have hB6 := blH hB5 hb6
  have hG6 := hG5.below hb6
  have b6 := (hb6.block _ (block_lt b5)).trans b5
  have c0 := cells_cell (i := 0) b6 (v := .int .i64 2) rfl
  have c1 := cells_cell (i := 1) b6 (v := .int .i64 300) rfl
  have c2 := cells_cell (i := 2) b6 (v := .int .i64 1) rfl
  have c3 := cells_cell (i := 3) b6 (v := .int .i64 7) rfl
  have PN := put_nil hG6 0 2 300 1 7
  clear T hB5 hb6 b5 H5
  go_wp2_with fail
  refine PN.mono ?_
  rintro r w7 ⟨rfl, hb7⟩
  have hB7 := blH hB6 hb7
  clear PN hb7
  go_wp2
  go_ret
  exact ⟨rfl, hB7⟩
end Go.Proofs.YtdhligapadblgaaDoor

/- Layer arena: New, Put, Read, Write, Zero. -/
import Derived.Test.YtdhligapadblgaaDoorN2
import Derived.Lib.LazyBuf
import Derived.Lib.SliceRun
import Derived.Laws.IdiomStrings
namespace Go.Proofs.YtdhligapadblgaaDoor
open Go Go.RowKit
attribute [local go_sem ↓] Go.wp_at_zero Go.wp_at_succ

theorem run_makeB (w : World) (k : Nat) (hk : k ≤ 1000000) : (Instr.makeSlice 34 (.int .i64 (k : Int)) (.int .i64 (k : Int))).run Tryd.prog w = .ok (.slice (some ⟨w.heap.size, 0, none⟩) k k) (w.alloc (.cells (madeCells #[.int .u8 0] k) 5)) := by
  obtain ⟨i0, hi, hz0, hz1, hz2⟩ := info_parts u8InfoN
  have := run_make (P := Tryd.prog) w 34 5 i0 (.int .u8 0) Tryd.underlying34 hi hz0 .i64 .i64 (k : Int) (k : Int) (by omega) (Int.le_refl _) (by rw [hz2]; omega) (by omega)
  rw [hz1] at this
  simpa [Value.cells] using this

theorem oneB_yes (k : Nat) (h1 : 1 ≤ k) (h2 : k ≤ 32) : oneB ((k : Int) - 1) 0 0 = true := by unfold oneB; exact decide_eq_true (by omega)
set_option maxHeartbeats 1000000 in
theorem new_yes {E : EnvN} {w : World} (hG : GlobN E w) (k : Nat) (h1 : 1 ≤ k) (h2 : k ≤ 32) :
    Calls Tryd.prog 19 #[.int .i64 (k : Int)] w fun r w' => (∃ p g, r = .returned (.tuple #[.pointer (some ⟨p, 0, none⟩), .int .i64 0]) ∧ w.heap.size ≤ p ∧ w.heap.size ≤ g ∧ ArenaV w' p g (4096 * k) (fun _ => 0)) ∧ Below w.heap.size w w' := by
  have wa : IntKind.i64.wrap ((k : Int) - 1) = (k : Int) - 1 := IntWalk.i64_in _ (by omega)
  have wb : IntKind.i64.wrap ((k : Int) * 4096) = ((4096 * k : Nat) : Int) := by rw [IntWalk.i64_in _ (by omega)]; omega
  have J := join_N hG.cA ((k : Int) - 1) 0 0
  rw [oneB_yes k h1 h2] at J
  have g1 : decide ((k : Int) < 1) = false := dec_false (by omega)
  have hmk := fun w => run_makeB w (4096 * k) (by omega)
  clear hG
  go_enter Tryd.func19, Tryd.ntmps19
  go_wp2_with fail
  refine J.mono ?_
  rintro r w2 ⟨rfl, hb⟩
  have hA := ArB.made w2 5 (4096 * k) (by omega)
  generalize hn : 4096 * k = n at *
  have HN := Lib.hid hn
  clear J wa h1 h2 hn
  go_wp2
  refine bodyPost_ret (results_tmp2 rfl _ _ _) rfl ⟨⟨_, w2.heap.size, rfl, ?_, hb.size, ?_⟩, ?_⟩
  · have := hb.size
    simp
    omega
  · rw [HN.out]
    refine ⟨by have := World.alloc_heap_new (w2.alloc (.cells (madeCells #[.int .u8 0] n) 5)) (.cells #[.slice (some ⟨w2.heap.size, 0, none⟩) n n] 77); rwa [World.size_alloc] at this, hA.next ((Below.refl _ _).alloc (Nat.le_refl _) _), ?_⟩
    simp
  · exact (hb.alloc hb.size _).alloc (by have := hb.size; simp; omega) _

theorem oneB_no (b : Int) (h : b < 0 ∨ 31 < b) : oneB b 0 0 = false := by
  have : ¬ (0 ≤ b ∧ b ≤ 31 ∧ (0 : Int) ≤ 0 ∧ (0 : Int) ≤ 31 ∧ (0 : Int) ≤ 0 ∧ (0 : Int) ≤ 127) := by omega
  exact dec_false this
set_option maxHeartbeats 1000000 in
theorem new_no {E : EnvN} {w : World} (hG : GlobN E w) (b : Int) (hb1 : -9223372036854775808 ≤ b) (hb2 : b ≤ 9223372036854775807) (h : b < 1 ∨ 32 < b) :
    Calls Tryd.prog 19 #[.int .i64 b] w fun r w' => r = .returned (.tuple #[.pointer none, .int .i64 2]) ∧ Below w.heap.size w w' := by
  have hx0 : IntKind.i64.wrap (b - 1) < 0 ∨ 31 < IntKind.i64.wrap (b - 1) := by rw [IntKind.wrap_i64]; omega
  generalize hX : IntKind.i64.wrap (b - 1) = X at hx0
  have J := join_N hG.cA X 0 0
  rw [oneB_no X hx0] at J
  clear hx0
  have HG := Lib.hid hG
  have k0 := hG.cArg
  clear hG h hb1 hb2
  go_enter Tryd.func19, Tryd.ntmps19
  go_wp2_with fail
  refine J.mono ?_
  rintro r w2 ⟨rfl, hb⟩
  have T := told_N (HG.out.below hb) .arg
  have k1 := (hb.cell (p := ⟨2, 0, none⟩) (cell_lt k0)).trans k0
  unfold ErN.val at T
  clear J k0
  go_wp2_with fail
  refine T.mono ?_
  rintro r w' ⟨rfl, rfl⟩
  go_wp2
  exact bodyPost_ret (results_tmp2 rfl _ _ _) rfl ⟨rfl, hb⟩

def okPut (n : Nat) (a v : Int) : Bool := inB n a 1 && (decide (0 ≤ v) && decide (v < 256))
def putE (n : Nat) (a v : Int) : Int := bif inB n a 1 then (bif decide (0 ≤ v) && decide (v < 256) then 0 else 2) else 10
def putF (n : Nat) (f : Nat → Nat) (a v : Int) : Nat → Nat := bif okPut n a v then (fun j => if j = a.toNat then v.toNat else f j) else f
end Go.Proofs.YtdhligapadblgaaDoor

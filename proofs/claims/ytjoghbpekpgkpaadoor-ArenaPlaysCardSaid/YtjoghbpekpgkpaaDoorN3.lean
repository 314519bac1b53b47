/- Layer arena: New, Put, Read, Write, Zero. -/
import Derived.Test.YtjoghbpekpgkpaaDoorN2
import Derived.Lib.LazyBuf
import Derived.Lib.SliceRun
import Derived.Laws.IdiomStrings
namespace Go.Proofs.YtjoghbpekpgkpaaDoor
open Go Go.RowKit
attribute [local go_sem ↓] Go.wp_at_zero Go.wp_at_succ

theorem run_makeB (w : World) (k : Nat) (hk : k ≤ 1000000) : (Instr.makeSlice 48 (.int .i64 (k : Int)) (.int .i64 (k : Int))).run Tryd.prog w = .ok (.slice (some ⟨w.heap.size, 0, none⟩) k k) (w.alloc (.cells (madeCells #[.int .u8 0] k) 5)) := by
  obtain ⟨i0, hi, hz0, hz1, hz2⟩ := info_parts u8InfoN
  have := run_make (P := Tryd.prog) w 48 5 i0 (.int .u8 0) Tryd.underlying48 hi hz0 .i64 .i64 (k : Int) (k : Int) (by omega) (Int.le_refl _) (by rw [hz2]; omega) (by omega)
  rw [hz1] at this
  simpa [Value.cells] using this

theorem oneB_yes (k : Nat) (h1 : 1 ≤ k) (h2 : k ≤ 32) : oneB ((k : Int) - 1) 0 0 = true := by unfold oneB; exact decide_eq_true (by omega)
set_option maxHeartbeats 1000000 in
theorem new_yes {E : EnvN} {w : World} (hG : GlobN E w) (k : Nat) (h1 : 1 ≤ k) (h2 : k ≤ 32) :
    Calls Tryd.prog 11 #[.int .i64 (k : Int)] w fun r w' => (∃ p g, r = .returned (.tuple #[.pointer (some ⟨p, 0, none⟩), .int .i64 0]) ∧ w.heap.size ≤ p ∧ w.heap.size ≤ g ∧ ArenaV w' p g (4096 * k) (fun _ => 0)) ∧ Below w.heap.size w w' := by
  have wa : IntKind.i64.wrap ((k : Int) - 1) = (k : Int) - 1 := IntWalk.i64_in _ (by omega)
  have wb : IntKind.i64.wrap ((k : Int) * 4096) = ((4096 * k : Nat) : Int) := by rw [IntWalk.i64_in _ (by omega)]; omega
  have J := join_N hG.cA ((k : Int) - 1) 0 0
  rw [oneB_yes k h1 h2] at J
  have g1 : decide ((k : Int) < 1) = false := dec_false (by omega)
  have hmk := fun w => run_makeB w (4096 * k) (by omega)
  clear hG
  go_enter Tryd.func11, Tryd.ntmps11
  go_wp2_with fail
  refine J.mono ?_
  rintro r w2 ⟨rfl, hb⟩
  have hA := ArB.made w2 5 (4096 * k) (by omega)
  generalize hn : 4096 * k = n at *
  have HN := Lib.hid hn
  clear J wa h1 h2 hn
  go_wp2
  refine bodyPost_ret (results_tmp2 rfl _ _ _) rfl ⟨⟨_, w2.heap.size, rfl, ?_, hb.size, ?_⟩, ?_⟩
  · have := hb.size
    simp
    omega
  · rw [HN.out]
    refine ⟨by have := World.alloc_heap_new (w2.alloc (.cells (madeCells #[.int .u8 0] n) 5)) (.cells #[.slice (some ⟨w2.heap.size, 0, none⟩) n n] 68); rwa [World.size_alloc] at this, hA.next ((Below.refl _ _).alloc (Nat.le_refl _) _), ?_⟩
    simp
  · exact (hb.alloc hb.size _).alloc (by have := hb.size; simp; omega) _

theorem oneB_no (b : Int) (h : b < 0 ∨ 31 < b) : oneB b 0 0 = false := by
  have : ¬ (0 ≤ b ∧ b ≤ 31 ∧ (0 : Int) ≤ 0 ∧ (0 : Int) ≤ 31 ∧ (0 : Int) ≤ 0 ∧ (0 : Int) ≤ 127) := by omega
  exact dec_false this
set_option maxHeartbeats 1000000 in
theorem new_no {E : EnvN} {w : World} (hG : GlobN E w) (b : Int) (hb1 : -9223372036854775808 ≤ b) (hb2 : b ≤ 9223372036854775807) (h : b < 1 ∨ 32 < b) :
    Calls Tryd.prog 11 #[.int .i64 b] w fun r w' => r = .returned (.tuple #[.pointer none, .int .i64 2]) ∧ Below w.heap.size w w' := by
  have hx0 : IntKind.i64.wrap (b - 1) < 0 ∨ 31 < IntKind.i64.wrap (b - 1) := by rw [IntKind.wrap_i64]; omega
  generalize hX : IntKind.i64.wrap (b - 1) = X at hx0
  have J := join_N hG.cA X 0 0
  rw [oneB_no X hx0] at J
  clear hx0
  have HG := Lib.hid hG
  have k0 := hG.cArg
  clear hG h hb1 hb2
  go_enter Tryd.func11, Tryd.ntmps11
  go_wp2_with fail
  refine J.mono ?_
  rintro r w2 ⟨rfl, hb⟩
  have T := told_N (HG.out.below hb) .arg
  have k1 := (hb.cell (p := ⟨0, 0, none⟩) (cell_lt k0)).trans k0
  unfold ErN.val at T
  clear J k0
  go_wp2_with fail
  refine T.mono ?_
  rintro r w' ⟨rfl, rfl⟩
  go_wp2
  exact bodyPost_ret (results_tmp2 rfl _ _ _) rfl ⟨rfl, hb⟩

def okPut (n : Nat) (a v : Int) : Bool := inB n a 1 && (decide (0 ≤ v) && decide (v < 256))
def putE (n : Nat) (a v : Int) : Int := bif inB n a 1 then (bif decide (0 ≤ v) && decide (v < 256) then 0 else 2) else 10
def putF (n : Nat) (f : Nat → Nat) (a v : Int) : Nat → Nat := bif okPut n a v then (fun j => if j = a.toNat then v.toNat else f j) else f
set_option maxHeartbeats 2000000 in
theorem put_N {E : EnvN} {w : World} {p g n : Nat} {f : Nat → Nat} (hG : GlobN E w) (hA : ArenaV w p g n f) (a v : Int) :
    Calls Tryd.prog 26 #[.pointer (some ⟨p, 0, none⟩), .int .i64 a, .int .i64 v] w fun r w' => r = .returned (.int .i64 (putE n a v)) ∧ ArenaV w' p g n (putF n f a v) ∧ w.grownBy w' (some g) := by
  have C := check_N hG hA a 1
  have c0 := hA.cell
  unfold putE putF okPut
  cases h : inB n a 1 with
  | true =>
    have e : chkN n a 1 = .ok := by unfold chkN; rw [h]; rfl
    rw [e] at C
    obtain ⟨h1, h2, h3, h4⟩ := inB_iff.1 h
    obtain ⟨A, rfl⟩ : ∃ A : Nat, a = A := ⟨a.toNat, by omega⟩
    rw [Int.toNat_natCast]
    by_cases hv : 0 ≤ v ∧ v < 256
    · obtain ⟨V, rfl⟩ : ∃ V : Nat, v = V := ⟨v.toNat, by omega⟩
      have gv0 : decide (0 ≤ (V : Int)) = true := decide_eq_true hv.1
      have gv1 : decide ((V : Int) < 256) = true := decide_eq_true hv.2
      rw [gv0, gv1]
      rw [Int.toNat_natCast]
      have g1 : decide ((V : Int) < 0) = false := dec_false (by omega)
      have g2 : decide ((256 : Int) ≤ (V : Int)) = false := dec_false (by omega)
      have c1 := hA.arr.cell A (by omega)
      have c2 := hA.arr.free A
      have hlt : (A : Int) < n := by omega
      have wv : IntKind.u8.wrap ((V : Nat) : Int) = (V : Int) := by rw [IntKind.wrap_u8']; omega
      have hF := Lib.hid (hA.put (grown_set w g A (.int .u8 (V : Int))) (hA.arr.set A V (by omega)))
      clear hG hA h h1 h2 h3 h4 e hv gv0 gv1
      go_enter Tryd.func26, Tryd.ntmps26
      go_wp2_with fail
      refine C.mono ?_
      rintro r w' ⟨rfl, rfl⟩
      unfold ErN.val
      go_wp2
      go_ret
      exact ⟨rfl, hF.out, grown_set _ _ _ _⟩
    · have T := told_N hG .arg
      have k0 := hG.cArg
      have e2 : (decide (0 ≤ v) && decide (v < 256)) = false := by rw [Bool.and_eq_false_iff, decide_eq_false_iff_not, decide_eq_false_iff_not]; omega
      rw [e2]
      have HA := Lib.hid hA
      by_cases hv0 : v < 0
      · have g1 : decide (v < 0) = true := decide_eq_true hv0
        clear hG hA h h1 h2 h3 h4 e hv e2 hv0
        go_enter Tryd.func26, Tryd.ntmps26
        go_wp2_with fail
        refine C.mono ?_
        rintro r w' ⟨rfl, rfl⟩
        unfold ErN.val at T ⊢
        go_wp2_with fail
        refine T.mono ?_
        rintro r w' ⟨rfl, rfl⟩
        go_wp2
        go_ret
        exact ⟨rfl, HA.out, grown_refl _ _⟩
      · have g1 : decide (v < 0) = false := dec_false hv0
        have g2 : decide ((256 : Int) ≤ v) = true := decide_eq_true (by omega)
        clear hG hA h h1 h2 h3 h4 e hv e2 hv0
        go_enter Tryd.func26, Tryd.ntmps26
        go_wp2_with fail
        refine C.mono ?_
        rintro r w' ⟨rfl, rfl⟩
        unfold ErN.val at T ⊢
        go_wp2_with fail
        refine T.mono ?_
        rintro r w' ⟨rfl, rfl⟩
        go_wp2
        go_ret
        exact ⟨rfl, HA.out, grown_refl _ _⟩
  | false =>
    have e : chkN n a 1 = .adr := by unfold chkN; rw [h]; rfl
    have T := told_N hG .adr
    rw [e] at C
    have HA := Lib.hid hA
    clear hG h e c0 hA
    go_enter Tryd.func26, Tryd.ntmps26
    go_wp2_with fail
    refine C.mono ?_
    rintro r w' ⟨rfl, rfl⟩
    unfold ErN.val at T ⊢
    go_wp2_with fail
    refine T.mono ?_
    rintro r w' ⟨rfl, rfl⟩
    go_wp2
    go_ret
    exact ⟨rfl, HA.out, grown_refl _ _⟩
end Go.Proofs.YtjoghbpekpgkpaaDoor

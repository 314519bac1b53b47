/- Layer arena: Load, in all cases. -/
import Derived.Test.YtjoghbpekpgkpaaDoorN6
namespace Go.Proofs.YtjoghbpekpgkpaaDoor
open Go Go.RowKit Go.Shelf
attribute [local go_sem ↓] Go.wp_at_zero Go.wp_at_succ

set_option maxHeartbeats 1000000 in
set_option maxRecDepth 20000 in
theorem load_bad {E : EnvN} {w : World} {p g n : Nat} {f : Nat → Nat} (hG : GlobN E w) (hA : ArenaV w p g n f) (a : Int) (h : okW n a = false) :
    Calls Tryd.prog 12 #[.pointer (some ⟨p, 0, none⟩), .int .i64 a] w fun r w' => r = .returned (.tuple #[.int .u32 0, .int .i64 10]) ∧ Below w.heap.size w w' := by
  obtain ⟨w1, hw1, a0, a1, a2⟩ := allocs1 w (.cells #[.int .i64 a] 3)
  have C := check_4 (hG.below a0) (hA.next a0) a 4 a (cap := 1) (cells_cell (i := 0) a2 (v := .int .i64 a) rfl)
  have e := errW_adr h
  have T := told_N (hG.below a0) .adr
  unfold errW at e
  rw [e] at C
  clear hG hA h e a1 a2
  go_enter Tryd.func12, Tryd.ntmps12
  go_wp2_with fail
  refine C.mono ?_
  rintro r w' ⟨rfl, rfl⟩
  unfold ErN.val at T ⊢
  go_wp2_with fail
  refine T.mono ?_
  rintro r w' ⟨rfl, rfl⟩
  go_wp2
  exact bodyPost_ret (results_tmp2 rfl _ _ _) rfl ⟨rfl, a0⟩
theorem load_N {E : EnvN} {w : World} {p g n : Nat} {f : Nat → Nat} (hG : GlobN E w) (hA : ArenaV w p g n f) (a : Int) :
    Calls Tryd.prog 12 #[.pointer (some ⟨p, 0, none⟩), .int .i64 a] w fun r w' => r = .returned (.tuple #[.int .u32 ((loadN n f a : Nat) : Int), .int .i64 (errW n a).code]) ∧ Below w.heap.size w w' := by
  unfold loadN
  cases h : okW n a with
  | true =>
    rw [errW_ok h]
    unfold okW at h
    rw [Bool.and_eq_true] at h
    obtain ⟨h1, h2, h3, h4⟩ := inB_iff.1 h.1
    obtain ⟨A, rfl⟩ : ∃ A : Nat, a = A := ⟨a.toNat, by omega⟩
    rw [cond_true, Int.toNat_natCast]
    exact load_right hG hA A h.2 (by omega)
  | false =>
    rw [errW_adr h, cond_false]
    exact load_bad hG hA a h
end Go.Proofs.YtjoghbpekpgkpaaDoor

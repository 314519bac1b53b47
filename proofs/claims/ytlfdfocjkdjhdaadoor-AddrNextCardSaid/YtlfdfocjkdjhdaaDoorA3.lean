/- Layer addr: Join. -/
import Derived.Test.YtlfdfocjkdjhdaaDoorA2
namespace Go.Proofs.YtlfdfocjkdjhdaaDoor
open Go.RowKit
attribute [local go_sem ↓] Go.wp_at_zero Go.wp_at_succ

set_option maxHeartbeats 1000000 in
theorem join_any {E : Env} {w : World} (h : Glob E w) (a b c : Int) :
    Calls Tryd.prog 14 #[.int .i64 a, .int .i64 b, .int .i64 c] w fun r w' => r = .returned (.tuple (if oneB a b c then #[.int .i64 ((a * 32 + b) * 128 + c), .int .i64 0] else #[.int .i64 0, .int .i64 10])) ∧ Below w.heap.size w w' := by
  have k0 : w.cell? ⟨0, 0, none⟩ = some (.iface 66 (.pointer (some E.aAddr))) := h.cAddr
  by_cases ho : oneB a b c = true
  · have ho' := ho
    simp only [oneB, decide_eq_true_eq] at ho'
    obtain ⟨h1, h2, h3, h4, h5, h6⟩ := ho'
    rw [ho]
    go_enter Tryd.func14, Tryd.ntmps14
    go_wp2
    go_region_held3 (fun w' => w'.cell? ⟨0, 0, none⟩ = some (.iface 66 (.pointer (some E.aAddr))) ∧ Glob E w' ∧ Below w.heap.size w w') (first | assumption | exact keep0 k0 h | (apply keepS; assumption; decide; first | assumption | exact keep0 k0 h))
      (first | (go_at_call 33; refine (isOne_any _ _ _ _).mono ?_; rintro e w' ⟨rfl, hb⟩) | (go_at_call 30; refine (unless_true _ _).mono ?_; rintro e w' ⟨rfl, rfl⟩))
    rename_i hH
    obtain ⟨-, hG, hB⟩ := hH
    go_wp2
    go_ret2
    exact ⟨rfl, hB⟩
  · have ho2 : oneB a b c = false := by simpa using ho
    rw [ho2]
    go_enter Tryd.func14, Tryd.ntmps14
    go_wp2
    go_region_held3 (fun w' => w'.cell? ⟨0, 0, none⟩ = some (.iface 66 (.pointer (some E.aAddr))) ∧ Glob E w' ∧ Below w.heap.size w w') (first | assumption | exact keep0 k0 h | (apply keepS; assumption; decide; first | assumption | exact keep0 k0 h))
      (first | (go_at_call 33; refine (isOne_any _ _ _ _).mono ?_; rintro e w' ⟨rfl, hb⟩) | (go_at_call 30; refine (unless_false _ _).mono ?_; rintro e w' ⟨rfl, rfl⟩))
    rename_i hH
    obtain ⟨-, hG, hB⟩ := hH
    go_wp2_with (go_at_call 31; refine (told_one hG .addr _ _).mono ?_; rintro e w' ⟨rfl, rfl⟩)
    go_ret2
    exact ⟨rfl, hB.alloc hB.size _⟩

theorem join_yes {E : Env} {w : World} (h : Glob E w) (a b c : Int) (ho : oneB a b c = true) :
    Calls Tryd.prog 14 #[.int .i64 a, .int .i64 b, .int .i64 c] w fun r w' => r = .returned (.tuple #[.int .i64 ((a * 32 + b) * 128 + c), .int .i64 0]) ∧ Below w.heap.size w w' := by
  have := join_any h a b c
  rwa [if_pos ho] at this
theorem join_no {E : Env} {w : World} (h : Glob E w) (a b c : Int) (ho : oneB a b c = false) :
    Calls Tryd.prog 14 #[.int .i64 a, .int .i64 b, .int .i64 c] w fun r w' => r = .returned (.tuple #[.int .i64 0, .int .i64 10]) ∧ Below w.heap.size w w' := by
  have := join_any h a b c
  rwa [if_neg (by simp [ho])] at this
end Go.Proofs.YtlfdfocjkdjhdaaDoor

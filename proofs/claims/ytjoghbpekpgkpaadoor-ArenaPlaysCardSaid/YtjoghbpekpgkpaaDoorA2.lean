/- Layer addr: places: isOne. -/
import Derived.Test.YtjoghbpekpgkpaaDoorA1
import Derived.Test.YtjoghbpekpgkpaaDoorMx
namespace Go.Proofs.YtjoghbpekpgkpaaDoor
open Go.RowKit
attribute [local go_sem ↓] Go.wp_at_zero Go.wp_at_succ

theorem sizeInt (w : World) : (sizeOf 3).run Tryd.prog w = .ok 1 w := by kernel_rfl
theorem underPlace : Tryd.prog.underlying 75 = some (.array 3 3) := by kernel_rfl
theorem run_eq_place (x1 x2 x3 y1 y2 y3 : Int) (w : World) : (Op.equalIn 10000 75 (.agg #[.int .i64 x1, .int .i64 x2, .int .i64 x3]) (.agg #[.int .i64 y1, .int .i64 y2, .int .i64 y3])).run Tryd.prog w = .ok (x1 == y1 && (x2 == y2 && x3 == y3)) w := by
  have p0 : ∀ (a b c : Value) w, (part 3 #[a, b, c] 0).run Tryd.prog w = .ok a w := fun _ _ _ _ => by kernel_rfl
  have p1 : ∀ (a b c : Value) w, (part 3 #[a, b, c] 1).run Tryd.prog w = .ok b w := fun _ _ _ _ => by kernel_rfl
  have p2 : ∀ (a b c : Value) w, (part 3 #[a, b, c] 2).run Tryd.prog w = .ok c w := fun _ _ _ _ => by kernel_rfl
  have pe : ∀ (x y : Int) w, (Op.equalIn 9999 3 (.int .i64 x) (.int .i64 y)).run Tryd.prog w = .ok (x == y) w := fun x y w => run_equalIn_int w 9998 3 .i64 .i64 x y Tryd.underlying3
  unfold Op.equalIn
  simp only [Sem.run_bind, run_underlying underPlace, Result.andThen_ok, sizeInt]
  simp [forIn, ForIn.forIn, List.range', Sem.run_bind, p0, p1, p2, pe]
  by_cases h1 : x1 = y1
  · by_cases h2 : x2 = y2
    · by_cases h3 : x3 = y3
      all_goals simp [h1, h2, h3]
    · simp [h1, h2]
  · simp [h1]

def oneB (a b c : Int) : Bool := decide (0 ≤ a ∧ a ≤ 31 ∧ 0 ≤ b ∧ b ≤ 31 ∧ 0 ≤ c ∧ c ≤ 127)
theorem oneB_eq (a b c : Int) : (min (max a 0) 31 == a && (min (max b 0) 31 == b && min (max c 0) 127 == c)) = oneB a b c := by
  rw [Bool.eq_iff_iff]; simp [oneB]; omega

attribute [local go_sem ↓] run_max_int run_min_int
set_option maxHeartbeats 1000000 in
theorem isOne_any (a b c : Int) (w : World) : Calls Tryd.prog 39 #[.agg #[.int .i64 a, .int .i64 b, .int .i64 c]] w fun r w' => r = .returned (.bool (oneB a b c)) ∧ Below w.heap.size w w' := by
  have he := run_eq_place (min (max a 0) 31) (min (max b 0) 31) (min (max c 0) 127) a b c
  rw [oneB_eq] at he
  go_enter Tryd.func39, Tryd.ntmps39
  go_wp2
  refine wp_loop_rounds 4 ?_
  rw [rounds_succ]
  go_wp2
  go_region
  go_wp2
  rw [rounds_succ]
  go_wp2
  go_region
  go_wp2
  rw [rounds_succ]
  go_wp2
  go_region
  go_wp2
  rw [rounds_succ]
  go_wp2
  go_ret
  exact ⟨rfl, (((((Below.refl _ _).alloc (Nat.le_refl _) _).alloc (by simp) _).alloc (by simp; omega) _).drew.drew.drew)⟩
end Go.Proofs.YtjoghbpekpgkpaaDoor

/- Layer hole: lengths of any list. -/
import Derived.Test.YtmgllljilnkkcaaDoorH10
namespace Go.Proofs.YtmgllljilnkkcaaDoor
open Go Go.RowKit
attribute [local go_sem ↓] Go.wp_at_zero Go.wp_at_succ

theorem lengths_wrong {w : World} {v : Value} {l : List Int} (hv : IntsV w v l) (hr : rightT l = false) :
    Calls Tryd.prog 12 #[v] w fun r w' => r = .returned (.tuple #[.slice none 0 0, .int .i64 70]) ∧ Below w.heap.size w w' := by
  have C := all_any hv
  obtain ⟨a, cap, rfl⟩ := hv.slice
  have e : allE l = 70 := by unfold allE; rw [hr]; rfl
  rw [e] at C
  clear hv e hr
  go_enter Tryd.func12, Tryd.ntmps12
  go_wp2_with fail
  refine C.mono ?_
  rintro r w1 ⟨⟨v1, rfl, h1⟩, hb1⟩
  obtain ⟨a', cap', rfl⟩ := h1.slice
  clear h1 C
  go_wp2
  go_ret2
  exact ⟨rfl, hb1⟩

def lenE (l : List Int) : List Int := bif rightT l then lensL (holesT l) else []
theorem lengths_any {w : World} {v : Value} {l : List Int} (hv : IntsV w v l) :
    Calls Tryd.prog 12 #[v] w fun r w' => (∃ v', r = .returned (.tuple #[v', .int .i64 (allE l)]) ∧ IntsV w' v' (lenE l)) ∧ Below w.heap.size w w' := by
  unfold lenE allE
  cases hr : rightT l with
  | true =>
    have h := lengths_right hv hr
    have e : allL l = holesT l := by unfold allL; rw [hr]; rfl
    rw [e] at h
    exact h
  | false => exact (lengths_wrong hv hr).mono fun r w' ⟨he, hb⟩ => ⟨⟨_, he, .empty none 0⟩, hb⟩
end Go.Proofs.YtmgllljilnkkcaaDoor

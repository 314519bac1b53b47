/- Two lists of integers compared (the document's Ints); a list cut at thirty-four (Cut). -/
import Derived.Test.YtmgllljilnkkcaaDoorMx
import Derived.Test.YtmgllljilnkkcaaDoorIl
import Derived.Deep.DrawnRows
namespace Go.Proofs.YtmgllljilnkkcaaDoor
open Go Go.RowKit
attribute [local go_sem ↓] Go.wp_at_zero Go.wp_at_succ
attribute [local go_sem ↓] run_max_int run_min_int

theorem ne_of_getD {l m : List Int} {k : Nat} (h : l.getD k 0 ≠ m.getD k 0) : l ≠ m := fun e => h (by rw [e])
theorem eq_of_getD {l m : List Int} (h1 : l.length = m.length) (h : ∀ k, k < l.length → l.getD k 0 = m.getD k 0) : l = m := by
  apply List.ext_getElem h1
  intro i hi hi'
  have := h i hi
  simpa [List.getD, hi, hi'] using this

theorem cut_any {w : World} {v : Value} {l : List Int} (hv : IntsV w v l) :
    Calls Tryd.prog 5 #[v] w fun r w' => (∃ v', r = .returned v' ∧ IntsV w v' (l.take 34)) ∧ w = w' := by
  cases hv with
  | empty a cap =>
    go_enter Tryd.func5, Tryd.ntmps5
    go_wp2
    go_ret
    exact ⟨⟨_, rfl, .empty _ _⟩, rfl⟩
  | some b off cap l hl hm hc =>
    have HC := Lib.hid hc
    clear hc
    have hn : min (l.length : Int) 34 = ((min l.length 34 : Nat) : Int) := by omega
    have hle : (min l.length 34 : Nat) ≤ cap := by omega
    go_enter Tryd.func5, Tryd.ntmps5
    go_wp2
    go_ret
    refine ⟨⟨_, rfl, ?_⟩, rfl⟩
    have e := IntsV.some (w := w) b off cap (l.take 34) (by simp; omega) hm fun i hi => by
      have hi' : i < l.length ∧ i < 34 := by simp at hi; omega
      rw [HC.out i hi'.1]
      simp [List.getD, hi'.2]
    rw [List.length_take] at e
    rw [Nat.min_comm]
    exact e
end Go.Proofs.YtmgllljilnkkcaaDoor

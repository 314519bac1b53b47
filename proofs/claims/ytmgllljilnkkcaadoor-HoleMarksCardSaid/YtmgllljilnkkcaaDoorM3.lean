/- Layer marks: the lines of any list; copies of lists; the table of two. -/
import Derived.Test.YtmgllljilnkkcaaDoorM2
import Derived.Test.YtmgllljilnkkcaaDoorAr
import Derived.Lib.Walk
import Derived.Lib.SliceRun
namespace Go.Proofs.YtmgllljilnkkcaaDoor
open Go Go.RowKit Go.Shelf Go.Lib
attribute [local go_sem ↓] Go.wp_at_zero Go.wp_at_succ

theorem IntsV.of_row {W : World} {base : Nat} {e : TypeId} {v : Value} {k : Nat} {xs : List Int} (h : W.ownsRow base e 1 v k (xs.map fun x : Int => Value.int .i64 x)) : IntsV W v xs := by
  have hk : xs.length = k := by have := h.1; simpa using this
  subst hk
  rcases h.2 with ⟨rfl, h0⟩ | ⟨g, cap, cur, rfl, _, hg, h1, h2, h3, h4⟩
  · have : xs = [] := List.length_eq_zero_iff.1 h0
    subst this
    exact .empty none 0
  · refine .some g 0 cap xs h1 (by unfold maxLen at h2; omega) fun i hi => ?_
    have h5 : (cur.toList.take (xs.length * 1))[i]? = Option.some (Value.int .i64 (xs.getD i 0)) := by rw [h4]; simp [List.getD_eq_getElem?_getD, hi]
    rw [List.getElem?_take] at h5
    rw [if_pos (by omega)] at h5
    rw [Nat.zero_add]
    exact cells_cell hg (by simpa using h5)

/-- The lines that a list keeps; none, if it is no table. -/
def linesI (l : List Int) : List Int := bif rightT l then (linesT l).map fun n : Nat => (n : Int) else []

theorem lines_any {w : World} {v : Value} {l : List Int} (hv : IntsV w v l) :
    Calls Tryd.prog 39 #[v] w fun r w' => (∃ v', r = .returned v' ∧ IntsV w' v' (linesI l)) ∧ Below w.heap.size w w' := by
  cases hr : rightT l with
  | true =>
    have h32 : l.length = 32 := by unfold rightT at hr; simp at hr; exact hr.1
    cases hv with
    | some b off cap l hl hm hc =>
      have C := lines_right h32 hr hl hm hc
      rw [h32]
      refine C.mono ?_
      rintro r w' ⟨⟨v', rfl, hrow⟩, hb⟩
      refine ⟨⟨v', rfl, ?_⟩, hb⟩
      unfold linesI
      rw [hr]
      refine IntsV.of_row (base := w.heap.size) (e := 3) (k := ((linesT l).map fun n : Nat => (n : Int)).length) ?_
      rw [show (bif true then (linesT l).map (fun n : Nat => (n : Int)) else []) = (linesT l).map (fun n : Nat => (n : Int)) from rfl, List.map_map, List.length_map]
      exact hrow
    | empty a cap => simp at h32
  | false =>
    have R := right_any7 hv
    rw [hr] at R
    have e : linesI l = [] := by unfold linesI; rw [hr]; rfl
    rw [e]
    obtain ⟨a, cap, rfl⟩ := hv.slice
    clear hv e hr
    refine calls_of_wp_marks Tryd.func39 rfl ?_
    simp only [Tryd.ntmps39, List.size_toArray, List.length_cons, List.length_nil, Nat.reduceAdd, Nat.reduceSub, Array.replicate_succ, Array.replicate_zero, List.push_toArray, List.append_toArray, List.nil_append, List.cons_append]
    go_wp2_with (go_at_call 15; refine R.mono ?_; rintro r w' ⟨rfl, rfl⟩)
    refine bodyPostR_ret0 (results_tmp rfl _ _ _) ⟨⟨_, rfl, ?_⟩, ?_⟩
    · exact .empty none 0
    · first | exact Below.refl _ _ | exact (Below.refl _ _).alloc (Nat.le_refl _) _

end Go.Proofs.YtmgllljilnkkcaaDoor

/- Layer hole: what is no table has no holes. -/
import Derived.Test.YtmgllljilnkkcaaDoorH5
namespace Go.Proofs.YtmgllljilnkkcaaDoor
open Go Go.RowKit Go.Shelf
attribute [local go_sem ↓] Go.wp_at_zero Go.wp_at_succ
attribute [local go_sem] Oper.semAt_some

theorem all_wrong {w : World} {a : Option Addr} {cap : Nat} {l : List Int} (hv : IntsV w (.slice a l.length cap) l) (hr : rightT l = false) :
    Calls Tryd.prog 10 #[.slice a l.length cap] w fun r w' => r = .returned (.tuple #[.slice none 0 0, .int .i64 70]) ∧ Below w.heap.size w w' := by
  have O := open_any hv
  rw [hr] at O
  obtain ⟨W1, hW1, e0, e1', e2'⟩ := allocs1 w.drew (.cells #[.slice a l.length l.length, .bool false] 62)
  have e2 : W1.heap[w.heap.size]? = some (.cells #[.slice a l.length l.length, .bool false] 62 (0, 0)) := e2'
  have b1 := cells_cell (i := 1) e2 (v := .bool false) rfl
  have eb : Below w.heap.size w W1 := (Below.refl _ w).drew.trans e0
  clear hr hv e0 e1' e2' e2
  refine calls_of_wp_marks Tryd.func10 rfl ?_
  simp only [Tryd.ntmps10, List.size_toArray, List.length_cons, List.length_nil, Nat.reduceAdd, Nat.reduceSub, Array.replicate_succ, Array.replicate_zero, List.push_toArray, List.append_toArray, List.nil_append, List.cons_append]
  go_wp2_with fail
  refine O.mono ?_
  rintro r W1' ⟨rfl, hw1⟩
  rw [hW1] at hw1
  subst hw1
  clear O hW1
  go_wp2
  exact bodyPostR_ret0 (results_tmp2 rfl _ _ _) ⟨rfl, eb⟩

theorem holes1_none {w : World} {F0 : Nat → Prop} {C D B : Nat} {a : Option Addr} {l : List Int}
    (hC : w.cell? ⟨C, 0, none⟩ = some (.pointer (some ⟨B, 0, none⟩))) (hB : w.heap[B]? = some (.cells #[.slice a l.length l.length, .bool false] 62 (0, 0))) :
    GivesF Tryd.prog 31 #[.pointer (some ⟨C, 0, none⟩), .pointer (some ⟨D, 0, none⟩)] encH [] F0 w := by
  intro lp J E W hW h0 hJ1 hJ2 hJ3 hE hY
  have hC' := (hW.cell (p := ⟨C, 0, none⟩) (cell_lt hC)).trans hC
  have hB' := (hW.block _ (block_lt hB)).trans hB
  have b1 := cells_cell (i := 1) hB' (v := .bool false) rfl
  clear hC hB hB' hY hJ1 hJ2 hJ3 hE
  refine callsIn_of_wp Tryd.func31 rfl trivial ?_ rfl
  simp only [Tryd.ntmps31, List.size_toArray, List.length_cons, List.length_nil, Nat.reduceAdd, Nat.reduceSub, Array.replicate_succ, Array.replicate_zero, List.push_toArray, List.append_toArray, List.nil_append, List.cons_append]
  gi_wp2
  refine wpIn_scope_straight ?_
  gi_wp2
  unfold Exit.noGoto
  exact bodyPost_ret (results_none rfl _ _ _) rfl ⟨⟨_, rfl⟩, .inl ⟨F0, h0⟩⟩
end Go.Proofs.YtmgllljilnkkcaaDoor

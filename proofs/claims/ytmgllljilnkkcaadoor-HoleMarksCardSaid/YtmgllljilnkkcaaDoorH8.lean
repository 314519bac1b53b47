/- A list of holes as a slice's cells. -/
import Derived.Test.YtmgllljilnkkcaaDoorH7
namespace Go.Proofs.YtmgllljilnkkcaaDoor
open Go Go.RowKit

inductive HolesV (w : World) : Value → List (Nat × Nat) → Prop where
  | some (b cap : Nat) (l : List (Nat × Nat)) (hl : l.length ≤ cap) (hm : cap ≤ 9223372036854775807)
      (hc : ∀ i, i < l.length → w.cell? ⟨b, i * 2, none⟩ = Option.some (.int .i64 (l.getD i (0, 0)).1) ∧ w.cell? ⟨b, i * 2 + 1, none⟩ = Option.some (.int .i64 (l.getD i (0, 0)).2)) : HolesV w (.slice (Option.some ⟨b, 0, none⟩) l.length cap) l
  | empty (a : Option Addr) (cap : Nat) : HolesV w (.slice a 0 cap) []

theorem HolesV.below {w w' : World} {v : Value} {l : List (Nat × Nat)} (h : HolesV w v l) (hb : Below w.heap.size w w') : HolesV w' v l := by
  cases h with
  | some b cap l hl hm hc =>
    exact .some b cap l hl hm fun i hi => ⟨(hb.cell (p := ⟨b, i * 2, none⟩) (cell_lt (hc i hi).1)).trans (hc i hi).1, (hb.cell (p := ⟨b, i * 2 + 1, none⟩) (cell_lt (hc i hi).2)).trans (hc i hi).2⟩
  | empty a cap => exact .empty a cap
theorem HolesV.slice {w : World} {v : Value} {l : List (Nat × Nat)} (h : HolesV w v l) : ∃ a cap, v = .slice a l.length cap := by
  cases h with
  | some b cap l hl hm hc => exact ⟨_, _, rfl⟩
  | empty a cap => exact ⟨_, _, rfl⟩
theorem cellsH_get (l : List (Nat × Nat)) : ∀ i, i < l.length → (cellsH l)[i * 2]? = some (.int .i64 (l.getD i (0, 0)).1) ∧ (cellsH l)[i * 2 + 1]? = some (.int .i64 (l.getD i (0, 0)).2) := by
  induction l with
  | nil => intro i hi; exact absurd hi (Nat.not_lt_zero i)
  | cons a l ih =>
    intro i hi
    have e : cellsH (a :: l) = .int .i64 a.1 :: .int .i64 a.2 :: cellsH l := rfl
    rw [e]
    cases i with
    | zero => exact ⟨rfl, rfl⟩
    | succ i =>
      have := ih i (by simpa using hi)
      rw [show (i + 1) * 2 = i * 2 + 1 + 1 by omega]
      simpa using this
theorem HolesV.of_row {W : World} {base : Nat} {e : TypeId} {v : Value} {l : List (Nat × Nat)} (h : W.ownsRow base e 2 v l.length (cellsH l)) : HolesV W v l := by
  rcases h.2 with ⟨rfl, h0⟩ | ⟨g, cap, cur, rfl, _, hg, h1, h2, h3, h4⟩
  · have : l = [] := List.length_eq_zero_iff.1 h0
    subst this
    exact .empty none 0
  · refine .some g cap l h1 (by unfold maxLen at h2; omega) fun i hi => ?_
    have k := cellsH_get l i hi
    have key : ∀ j u, j < l.length * 2 → (cellsH l)[j]? = Option.some u → W.cell? ⟨g, j, none⟩ = Option.some u := by
      intro j u hj hu
      refine cells_cell hg ?_
      rw [← h4, List.getElem?_take, if_pos hj] at hu
      simpa using hu
    exact ⟨key _ _ (by omega) k.1, key _ _ (by omega) k.2⟩

/-- hole.All at any list. -/
def allE (l : List Int) : Int := bif rightT l then 0 else 70
def allL (l : List Int) : List (Nat × Nat) := bif rightT l then holesT l else []
theorem all_any {w : World} {v : Value} {l : List Int} (hv : IntsV w v l) :
    Calls Tryd.prog 10 #[v] w fun r w' => (∃ v', r = .returned (.tuple #[v', .int .i64 (allE l)]) ∧ HolesV w' v' (allL l)) ∧ Below w.heap.size w w' := by
  obtain ⟨a, cap, rfl⟩ := hv.slice
  unfold allE allL
  cases hr : rightT l with
  | true => exact (all_right hv hr).mono fun r w' ⟨⟨v', he, hrow⟩, hb⟩ => ⟨⟨v', he, HolesV.of_row hrow⟩, hb⟩
  | false => exact (all_wrong hv hr).mono fun r w' ⟨he, hb⟩ => ⟨⟨_, he, .empty none 0⟩, hb⟩
def roomE (l : List Int) : Int := bif rightT l then roomH (holesT l) else 0
def longE (l : List Int) : Int := bif rightT l then longH (holesT l) else 0
theorem room_any {w : World} {v : Value} {l : List Int} (hv : IntsV w v l) : Calls Tryd.prog 8 #[v] w fun r w' => r = .returned (.int .i64 (roomE l)) ∧ Below w.heap.size w w' := by
  obtain ⟨a, cap, rfl⟩ := hv.slice
  unfold roomE
  cases hr : rightT l with
  | true => exact room_right hv hr
  | false => exact room_wrong hv hr
theorem longest_any {w : World} {v : Value} {l : List Int} (hv : IntsV w v l) : Calls Tryd.prog 14 #[v] w fun r w' => r = .returned (.int .i64 (longE l)) ∧ Below w.heap.size w w' := by
  obtain ⟨a, cap, rfl⟩ := hv.slice
  unfold longE
  cases hr : rightT l with
  | true => exact long_right hv hr
  | false => exact long_wrong hv hr
end Go.Proofs.YtmgllljilnkkcaaDoor

/- The document's answers for layer 7, walked. -/
import Derived.Test.YtmgllljilnkkcaaDoorM3
import Derived.Test.YtmgllljilnkkcaaDoorIn
namespace Go.Proofs.YtmgllljilnkkcaaDoor
open Go Go.RowKit
attribute [local go_sem ↓] Go.wp_at_zero Go.wp_at_succ

set_option maxHeartbeats 400000 in
theorem refRight_any {w : World} {v : Value} {l : List Int} (hv : IntsV w v l) :
    Calls Tryd.prog 9 #[v] w fun r w' => r = .returned (.bool (rightT l)) ∧ Below w.heap.size w w' := by
  cases hv with
  | empty a cap =>
    go_enter Tryd.func9, Tryd.ntmps9
    go_wp2
    refine wp_loop_rounds 1 ?_
    rw [rounds_succ]
    go_wp2
    go_ret
    exact ⟨rfl, Below.refl _ _⟩
  | some b off cap l hl hm hc =>
    have HCs := Lib.hid hc
    clear hc
    go_enter Tryd.func9, Tryd.ntmps9
    go_wp2
    go_loopw [3] (fun i W => ∃ k : Nat, k ≤ l.length ∧ i = .int .i64 k ∧ (∀ j, j < k → okN (l.getD j 0) = true) ∧ Below w.heap.size w W) (fun i _ => l.length - (intOf i).toNat)
    case atStart => exact ⟨0, Nat.zero_le _, rfl, fun j hj => by omega, Below.refl _ _⟩
    case round =>
      obtain ⟨k, hk, rfl, hp, hB⟩ := hrel
      have HP := Lib.hid hp
      clear hp
      by_cases hlt : k < l.length
      · have c1 := (hB.cell (p := ⟨b, off + k, none⟩) (cell_lt (HCs.out k hlt))).trans (HCs.out k hlt)
        generalize hx : l.getD k 0 = x at c1
        have HX := Lib.hid hx
        clear hx
        by_cases h0 : x < 0
        · go_wp2
          first | go_region | skip
          go_wp2
          go_ret
          have e : rightT l = false := by unfold rightT; rw [all_false_at (k := k) hlt (by rw [HX.out]; unfold okN; rw [decide_eq_false (by omega)]; rfl), Bool.and_false]
          rw [e]
          exact ⟨rfl, by first | exact hB | exact hB.drew⟩
        · by_cases h2 : 2 < x
          · have hd1 : decide (x < 0) = false := decide_eq_false h0
            go_wp2
            first | go_region | skip
            go_wp2
            go_ret
            have e : rightT l = false := by unfold rightT; rw [all_false_at (k := k) hlt (by rw [HX.out]; unfold okN; rw [decide_eq_false (show ¬ x ≤ 2 by omega), Bool.and_false]), Bool.and_false]
            rw [e]
            exact ⟨rfl, by first | exact hB | exact hB.drew⟩
          · have hd1 : decide (x < 0) = false := decide_eq_false h0
            have hd2 : decide (2 < x) = false := decide_eq_false h2
            go_wp2
            first | go_region | skip
            go_wp2
            go_round
            case rel => exact ⟨k + 1, by omega, by go_num, fun j hj => by by_cases hjk : j = k; (subst hjk; rw [HX.out]; unfold okN; rw [decide_eq_true (show 0 ≤ x by omega), decide_eq_true (show x ≤ 2 by omega)]; rfl); exact HP.out j (by omega), by first | exact hB | exact hB.drew⟩
            case measure => simp [intOf]; omega
      · obtain rfl : k = l.length := by omega
        go_wp2
        go_ret
        have e : rightT l = decide (l.length = 32) := by unfold rightT; rw [all_true_of (fun j hj => HP.out j hj), Bool.and_true]
        rw [e]
        refine ⟨?_, hB⟩
        by_cases h32 : l.length = 32
        · simp [h32]
        · have : ((l.length : Int) == 32) = false := beq_eq_false_iff_ne.2 (by omega)
          simp [h32, this]

/-- Is a line of a list kept, as the document says? -/
def keptI (l : List Int) (x : Int) : Bool := decide (x ∈ linesI l)
theorem keptI_wrong {l : List Int} (h : rightT l = false) (x : Int) : keptI l x = false := by
  unfold keptI linesI
  rw [h]
  rfl
theorem keptI_right {l : List Int} (h : rightT l = true) (k : Nat) (hk : k < 32) : keptI l (k : Int) = keptT l k := by
  unfold keptI linesI
  rw [h, Bool.eq_iff_iff, decide_eq_true_iff]
  show (k : Int) ∈ (linesT l).map (fun n : Nat => (n : Int)) ↔ _
  rw [List.mem_map]
  constructor
  · rintro ⟨n, hn, e⟩
    obtain rfl : n = k := by omega
    exact (List.mem_filter.1 hn).2
  · intro h2
    exact ⟨k, List.mem_filter.2 ⟨List.mem_range.2 hk, h2⟩, rfl⟩
theorem keptI_out {l : List Int} (h : rightT l = true) (x : Int) (hx : x < 0 ∨ 32 ≤ x) : keptI l x = false := by
  unfold keptI linesI
  rw [h]
  refine decide_eq_false fun hm => ?_
  obtain ⟨n, hn, e⟩ := List.mem_map.1 (show x ∈ (linesT l).map (fun n : Nat => (n : Int)) from hm)
  have := List.mem_range.1 (List.mem_filter.1 hn).1
  omega

def linesK (l : List Int) (k : Nat) : List Int := ((List.range k).filter fun n : Nat => keptI l (n : Int)).map fun n : Nat => (n : Int)
theorem linesK_all (l : List Int) : linesK l 32 = linesI l := by
  unfold linesK
  cases hr : rightT l with
  | false =>
    have e : (List.range 32).filter (fun n : Nat => keptI l (n : Int)) = [] := List.filter_eq_nil_iff.2 fun n _ => by rw [keptI_wrong hr]; decide
    rw [e]
    unfold linesI
    rw [hr]
    rfl
  | true =>
    have e : (List.range 32).filter (fun n : Nat => keptI l (n : Int)) = linesT l := List.filter_congr fun n hn => keptI_right hr n (List.mem_range.1 hn)
    rw [e]
    unfold linesI
    rw [hr]
    rfl
theorem linesK_yes {l : List Int} {k : Nat} (h : keptI l (k : Int) = true) : linesK l (k + 1) = linesK l k ++ [(k : Int)] := by
  unfold linesK
  rw [List.range_succ, List.filter_append, List.map_append]
  simp [h]
theorem linesK_no {l : List Int} {k : Nat} (h : keptI l (k : Int) = false) : linesK l (k + 1) = linesK l k := by
  unfold linesK
  rw [List.range_succ, List.filter_append, List.map_append]
  simp [h]
theorem linesK_le (l : List Int) (k : Nat) : (linesK l k).length ≤ k := by
  unfold linesK
  rw [List.length_map]
  exact Nat.le_trans (List.length_filter_le _ _) (by simp)

theorem own_ge {W : World} {base : Nat} {e : TypeId} {size : Nat} {v : Value} {k : Nat} {xs : List Value} (h : W.ownsRow base e size v k xs) : ∀ j, v.ownBlock = some j → base ≤ j := fun _ hj => ownsRow_block h hj.symm

end Go.Proofs.YtmgllljilnkkcaaDoor

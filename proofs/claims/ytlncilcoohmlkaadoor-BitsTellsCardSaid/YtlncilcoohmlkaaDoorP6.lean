/- Layer bits: either of two (plain). -/
import Derived.Test.YtlncilcoohmlkaaDoorP5
import Derived.Test.YtlncilcoohmlkaaDoorU13
namespace Go.Proofs.YtlncilcoohmlkaaDoor

theorem orW_len (ws us : List Nat) : (orW ws us).length = ws.length := by simp [orW]
theorem orW_get (ws us : List Nat) (j : Nat) (hj : j < ws.length) : (orW ws us).getD j 0 = ws.getD j 0 ||| us.getD j 0 := by simp [orW, List.getD, hj]
theorem onB_orW {ws us : List Nat} (hl : us.length = ws.length) (j : Nat) : onB (orW ws us) j = (onB ws j || onB us j) := by
  by_cases h : j / 32 < ws.length
  · unfold onB
    rw [orW_get ws us _ h, Nat.testBit_or]
  · rw [onB_out (by rw [orW_len]; omega), onB_out (by omega), onB_out (by omega)]; rfl
theorem right_orW {N : Nat} {ws us : List Nat} (hr : rightB (N : Int) ws = true) (hr2 : rightB (N : Int) us = true) : rightB (N : Int) (orW ws us) = true := by
  obtain ⟨M, e, h1, h2, h3⟩ := rightB_iff hr
  obtain rfl : N = M := by omega
  obtain ⟨M, e, k1, k2, k3⟩ := rightB_iff hr2
  obtain rfl : N = M := by omega
  refine rightB_mk h1 (by rw [orW_len]; exact h2) fun j hj hj2 => ?_
  rw [orW_len] at hj2
  rw [onB_orW (by omega), h3 j hj hj2, k3 j hj (by omega)]; rfl
theorem right_len {N : Nat} {ws us : List Nat} (hr : rightB (N : Int) ws = true) (hr2 : rightB (N : Int) us = true) : us.length = ws.length := by
  obtain ⟨M, e, h1, h2, h3⟩ := rightB_iff hr
  obtain rfl : N = M := by omega
  obtain ⟨M, e, k1, k2, k3⟩ := rightB_iff hr2
  obtain rfl : N = M := by omega
  omega
theorem orW_comm {ws us : List Nat} (hl : us.length = ws.length) : orW ws us = orW us ws := by
  refine eq_of_getDW (by rw [orW_len, orW_len, hl]) fun j hj => ?_
  rw [orW_len] at hj
  rw [orW_get _ _ _ hj, orW_get _ _ _ (by omega), Nat.or_comm]
theorem orW_self (ws : List Nat) : orW ws ws = ws := by
  refine eq_of_getDW (orW_len _ _) fun j hj => ?_
  rw [orW_len] at hj
  rw [orW_get _ _ _ hj, Nat.or_self]
theorem has_orW {N : Nat} {ws us : List Nat} (hr : rightB (N : Int) ws = true) (hr2 : rightB (N : Int) us = true) (i : Int) : hasB (N : Int) (orW ws us) i = (hasB (N : Int) ws i || hasB (N : Int) us i) := by
  unfold hasB
  rw [right_orW hr hr2, hr, hr2]
  by_cases h : 0 ≤ i ∧ i < (N : Int)
  · rw [decide_eq_true h.1, decide_eq_true h.2, onB_orW (right_len hr hr2)]; rfl
  · have e : (decide (0 ≤ i) && decide (i < (N : Int))) = false := by
      rw [Bool.and_eq_false_iff, decide_eq_false_iff_not, decide_eq_false_iff_not]; omega
    simp only [Bool.true_and]
    cases h1 : decide (0 ≤ i) <;> cases h2 : decide (i < (N : Int)) <;> simp_all
theorem countP_or_le {α : Type} (L : List α) (p q : α → Bool) : L.countP p ≤ L.countP (fun x => p x || q x) ∧ L.countP q ≤ L.countP (fun x => p x || q x) ∧ L.countP (fun x => p x || q x) ≤ L.countP p + L.countP q := by
  induction L with
  | nil => simp
  | cons a L ih =>
    simp only [List.countP_cons]
    cases p a <;> cases q a <;> simp <;> omega
theorem count_orW {N : Nat} {ws us : List Nat} (hr : rightB (N : Int) ws = true) (hr2 : rightB (N : Int) us = true) :
    (listN (N : Int) ws).length ≤ (listN (N : Int) (orW ws us)).length ∧ (listN (N : Int) us).length ≤ (listN (N : Int) (orW ws us)).length ∧ (listN (N : Int) (orW ws us)).length ≤ (listN (N : Int) ws).length + (listN (N : Int) us).length := by
  rw [listN_count (right_orW hr hr2), listN_count hr, listN_count hr2]
  have e1 : (fun j => onB (orW ws us) j) = fun j => onB ws j || onB us j := by funext j; exact onB_orW (right_len hr hr2) j
  rw [e1]
  exact countP_or_le _ _ _
/-- The places that are off. -/
def offN (N : Nat) (ws : List Nat) : List Nat := placesL ws N 0 false
theorem off_count {N : Nat} {ws : List Nat} (hr : rightB (N : Int) ws = true) : (offN N ws).length + (listN (N : Int) ws).length = N := by
  rw [listN_count hr]
  have h : (offN N ws).length = (List.range N).countP fun j => !onB ws j := by
    rw [List.countP_eq_length_filter]
    unfold offN placesL
    congr 1
    refine List.filter_congr fun j _ => ?_
    unfold soB
    simp
  rw [h]
  have : ∀ L : List Nat, (L.countP fun j => !onB ws j) + (L.countP fun j => onB ws j) = L.length := by
    intro L
    induction L with
    | nil => rfl
    | cons a L ih =>
      simp only [List.countP_cons, List.length_cons]
      cases onB ws a <;> simp <;> omega
  rw [this, List.length_range]
theorem next_off {N : Nat} {ws : List Nat} (hr : rightB (N : Int) ws = true) {k : Nat} (hk : k ≤ (offN N ws).length) : nextI (N : Int) ws (fromP (offN N ws) k : Nat) false = (offN N ws)[k]? := by
  have h := filter_from (places_sorted ws N 0 false) hk
  unfold offN at *
  rw [← h]
  unfold nextI
  rw [hr, cond_true, Int.toNat_natCast, places_from]
end Go.Proofs.YtlncilcoohmlkaaDoor

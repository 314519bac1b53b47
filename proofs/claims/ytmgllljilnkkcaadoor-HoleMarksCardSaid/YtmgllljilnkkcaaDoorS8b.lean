/- The plain laws of layer 8: the hole from a line on. No program in sight. -/
import Derived.Test.YtmgllljilnkkcaaDoorQ8
namespace Go.Proofs.YtmgllljilnkkcaaDoor
open Go Go.RowKit

/-- What the hole from a line on is. -/
theorem next_none {l : List Int} (hr : rightT l = true) (x : Int) (h : nextO l x = none) : ∀ j : Nat, x ≤ j → j < 32 → keptI l (j : Int) = true := by
  intro j hj hj'
  unfold nextO at h
  rw [hr] at h
  have h' : scanH (keptB l) x.toNat x.toNat = [] := List.head?_eq_none_iff.1 h
  by_cases h33 : x.toNat ≤ 33
  · rw [← keptB_I l j hj']
    exact scan_nil _ _ _ (Nat.le_refl _) h33 (keptB_32 l) (fun i hi hi' => by omega) h' j (by omega) (by omega)
  · omega
theorem next_some {l : List Int} (hr : rightT l = true) (x : Int) (h1 h2 : Nat) (h : nextO l x = some (h1, h2)) :
    h1 < h2 ∧ h2 ≤ 32 ∧ x ≤ h1 ∧ (∀ j : Nat, x ≤ j → j < h1 → keptI l (j : Int) = true) ∧ (∀ j : Nat, h1 ≤ j → j < h2 → keptI l (j : Int) = false) ∧ (h2 < 32 → keptI l (h2 : Int) = true) := by
  unfold nextO at h
  rw [hr] at h
  cases hs : scanH (keptB l) x.toNat x.toNat with
  | nil => simp only [cond_true] at h; rw [hs] at h; cases h
  | cons y rest =>
    simp only [cond_true] at h
    rw [hs] at h
    obtain rfl : y = (h1, h2) := by simpa using h
    obtain ⟨a1, a2, a3, a4, a5, a6, a7⟩ := scan_head _ _ _ _ _ (Nat.le_refl _) (fun j hj hj' => by omega) hs
    simp only at a1 a2 a3 a4 a5 a6
    refine ⟨a1, by omega, by omega, fun j hj hj' => ?_, fun j hj hj' => ?_, fun hj => ?_⟩
    · rw [← keptB_I l j (by omega)]; exact a4 j (by omega) hj'
    · rw [← keptB_I l j (by omega)]; exact a5 j hj hj'
    · rw [← keptB_I l h2 hj]; exact a6
theorem next_wrong {l : List Int} (hr : rightT l = false) (x : Int) : nextO l x = none := by unfold nextO; rw [hr]; rfl

end Go.Proofs.YtmgllljilnkkcaaDoor

/- The plain laws of layer 8. No program in sight. -/
import Derived.Test.YtmgllljilnkkcaaH14
namespace Go.Proofs.Ytmgllljilnkkcaa
open Go Go.RowKit

/-- Where the walk from Next to Next stands behind k holes. -/
def fromW (L : List (Nat × Nat)) (k : Nat) : Nat := if k = 0 then 0 else (L.getD (k - 1) (0, 0)).2
theorem fromW_succ (L : List (Nat × Nat)) (k : Nat) : fromW L (k + 1) = (L.getD k (0, 0)).2 := by
  unfold fromW
  rw [if_neg (Nat.succ_ne_zero k), Nat.add_sub_cancel]
theorem fromW_zero (L : List (Nat × Nat)) : fromW L 0 = 0 := by unfold fromW; rw [if_pos (Eq.refl 0)]
theorem drop_walk {l : List Int} (hr : rightT l = true) (k : Nat) (hk : k ≤ (allL l).length) : scanH (keptB l) (fromW (allL l) k) (fromW (allL l) k) = (allL l).drop k := by
  induction k with
  | zero =>
    rw [fromW_zero, List.drop_zero]
    unfold allL
    rw [hr]
    rfl
  | succ k ih =>
    have h := ih (by omega)
    rw [List.drop_eq_getElem_cons (by omega)] at h
    obtain ⟨_, _, _, _, _, _, h7⟩ := scan_head _ _ _ _ _ (Nat.le_refl _) (fun j hj hj' => by omega) h
    have e : (allL l).getD k (0, 0) = (allL l)[k] := by simp [List.getD, show k < (allL l).length by omega]
    rw [fromW_succ, e, h7]
theorem next_walk (l : List Int) (k : Nat) (hk : k ≤ (allL l).length) : nextO l (fromW (allL l) k : Nat) = (allL l)[k]? := by
  unfold nextO
  cases hr : rightT l with
  | true =>
    show (scanH _ (Int.toNat (fromW (allL l) k : Nat)) _).head? = _
    rw [Int.toNat_natCast, drop_walk hr k hk, List.head?_drop]
  | false =>
    have e : allL l = [] := by unfold allL; rw [hr]; rfl
    rw [e]; rfl
theorem allL_len (l : List Int) : (allL l).length ≤ 33 := by
  unfold allL
  cases rightT l with
  | true => exact scanH_len (keptB l) 0 0 (Nat.le_refl _)
  | false => exact Nat.zero_le _
end Go.Proofs.Ytmgllljilnkkcaa

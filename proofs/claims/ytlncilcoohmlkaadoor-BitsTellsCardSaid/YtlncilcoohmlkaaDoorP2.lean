/- Layer bits: plain laws of places turned. -/
import Derived.Test.YtlncilcoohmlkaaDoorU9
namespace Go.Proofs.YtlncilcoohmlkaaDoor

theorem rightB_mk {N : Nat} {ws : List Nat} (h1 : N ≤ 20000) (h2 : ws.length = (N + 31) / 32) (h3 : ∀ i, N ≤ i → i < 32 * ws.length → onB ws i = false) : rightB (N : Int) ws = true := by
  unfold rightB
  rw [decide_eq_true (show (0 : Int) ≤ (N : Int) by omega), decide_eq_true (show (N : Int) ≤ 20000 by omega), decide_eq_true (show (ws.length : Int) = ((N : Int) + 31) / 32 by omega), Int.toNat_natCast, (tailB_iff ws N).2 h3]
  rfl
theorem setW_len (ws : List Nat) (i : Nat) (on : Bool) : (setW ws i on).length = ws.length := by simp [setW]
theorem setW_get (ws : List Nat) (i : Nat) (on : Bool) (j : Nat) (hj : j < ws.length) : (setW ws i on).getD j 0 = setF on (fun j => ws.getD j 0) i j := by simp [setW, List.getD, hj]
theorem onB_out {ws : List Nat} {j : Nat} (hj : ws.length ≤ j / 32) : onB ws j = false := by
  unfold onB
  have : ws.getD (j / 32) 0 = 0 := by simp [List.getD, hj]
  rw [this]; exact Nat.zero_testBit _
theorem onB_setW {ws : List Nat} {i : Nat} (hi : i < 32 * ws.length) (on : Bool) (j : Nat) : onB (setW ws i on) j = if j = i then on else onB ws j := by
  by_cases h : j / 32 < ws.length
  · unfold onB
    rw [setW_get ws i on _ h]
    unfold setF
    by_cases e : j / 32 = i / 32
    · rw [if_pos e, turnW_bit _ _ _ (Nat.mod_lt _ (by decide))]
      by_cases e2 : j = i
      · subst e2; rw [if_pos rfl, if_pos rfl]
      · rw [if_neg (show ¬ j % 32 = i % 32 by omega), if_neg e2]
    · rw [if_neg e, if_neg (show ¬ j = i from fun h => e (by rw [h]))]
  · rw [onB_out (by rw [setW_len]; omega), if_neg (show ¬ j = i by omega), onB_out (by omega)]
theorem right_setW {N : Nat} {ws : List Nat} (hr : rightB (N : Int) ws = true) {i : Nat} (hi : i < N) (on : Bool) : rightB (N : Int) (setW ws i on) = true := by
  obtain ⟨M, e, h1, h2, h3⟩ := rightB_iff hr
  obtain rfl : N = M := by omega
  refine rightB_mk h1 (by rw [setW_len]; exact h2) fun j hj hj2 => ?_
  rw [setW_len] at hj2
  rw [onB_setW (by omega), if_neg (by omega)]
  exact h3 j hj hj2
theorem has_setW {N : Nat} {ws : List Nat} (hr : rightB (N : Int) ws = true) {i : Nat} (hi : i < N) (on : Bool) : hasB (N : Int) (setW ws i on) (i : Int) = on := by
  obtain ⟨M, e, h1, h2, h3⟩ := rightB_iff hr
  obtain rfl : N = M := by omega
  unfold hasB
  rw [right_setW hr hi, decide_eq_true (show (0 : Int) ≤ (i : Int) by omega), decide_eq_true (show (i : Int) < (N : Int) by omega), Int.toNat_natCast, onB_setW (by omega), if_pos rfl]
  rfl
theorem has_setW_ne {N : Nat} {ws : List Nat} (hr : rightB (N : Int) ws = true) {i : Nat} (hi : i < N) (on : Bool) {k : Int} (hk : k ≠ (i : Int)) : hasB (N : Int) (setW ws i on) k = hasB (N : Int) ws k := by
  obtain ⟨M, e, h1, h2, h3⟩ := rightB_iff hr
  obtain rfl : N = M := by omega
  unfold hasB
  rw [right_setW hr hi, hr]
  by_cases h0 : 0 ≤ k
  · rw [onB_setW (by omega), if_neg (by omega)]
  · rw [decide_eq_false h0]; rfl
end Go.Proofs.YtlncilcoohmlkaaDoor

/- The plain law of layer 8: what a scan over a table's lines gives. No program in sight. -/
import Derived.Test.YtmgllljilnkkcaaDoorH11
import Derived.Test.YtmgllljilnkkcaaDoorR1
namespace Go.Proofs.YtmgllljilnkkcaaDoor
open Go Go.RowKit

theorem scan_skip (K : Nat → Bool) (s i : Nat) (hsi : s ≤ i) (hi : i ≤ 33) (h : ∀ j, s ≤ j → j < i → K j = true) : scanH K s s = scanH K i i := by
  induction hn : i - s generalizing s with
  | zero => obtain rfl : s = i := by omega
            rfl
  | succ n ih =>
    rw [scanH_none (by omega) (h s (Nat.le_refl _) (by omega))]
    exact ih (s + 1) (by omega) (fun j hj hj' => h j (by omega) hj') (by omega)
theorem scan_run (K : Nat → Bool) (i k to : Nat) (hik : i ≤ k) (hk : k ≤ to) (hit : i < to) (ht : to < 33) (h : ∀ j, i ≤ j → j < to → K j = false) (hto : K to = true) : scanH K i k = (i, to) :: scanH K (to + 1) (to + 1) := by
  induction hn : to - k generalizing k with
  | zero => obtain rfl : k = to := by omega
            exact scanH_some ht hto (by omega)
  | succ n ih =>
    rw [scanH_free (by omega) (h k hik (by omega))]
    exact ih (k + 1) (by omega) (by omega) (by omega)
theorem scan_head (K : Nat → Bool) (s k : Nat) (x : Nat × Nat) (rest : List (Nat × Nat)) (hs : s ≤ k) (hf : ∀ j, s ≤ j → j < k → K j = false) (h : scanH K s k = x :: rest) :
    x.1 < x.2 ∧ x.2 < 33 ∧ s ≤ x.1 ∧ (∀ j, s ≤ j → j < x.1 → K j = true) ∧ (∀ j, x.1 ≤ j → j < x.2 → K j = false) ∧ K x.2 = true ∧ rest = scanH K x.2 x.2 := by
  induction hn : 33 - k generalizing s k with
  | zero => rw [scanH_end K s k (by omega)] at h; cases h
  | succ n ih =>
    cases hk : K k with
    | false =>
      rw [scanH_free (by omega) hk] at h
      exact ih s (k + 1) (by omega) (fun j hj hj' => by by_cases e : j = k; exact e ▸ hk; exact hf j hj (by omega)) h (by omega)
    | true =>
      by_cases e : s = k
      · subst e
        rw [scanH_none (by omega) hk] at h
        obtain ⟨h1, h2, h3, h4, h5, h6, h7⟩ := ih (s + 1) (s + 1) (Nat.le_refl _) (fun j hj hj' => by omega) h (by omega)
        exact ⟨h1, h2, by omega, fun j hj hj' => by by_cases e : j = s; exact e ▸ hk; exact h4 j (by omega) hj', h5, h6, h7⟩
      · rw [scanH_some (by omega) hk e] at h
        cases h
        exact ⟨by show s < k; omega, by show k < 33; omega, Nat.le_refl _, fun j hj hj' => absurd hj' (by show ¬ j < s; omega), fun j hj hj' => hf j hj hj', hk, (scanH_none (by omega) hk).symm⟩
theorem scan_nil (K : Nat → Bool) (s k : Nat) (hs : s ≤ k) (hk : k ≤ 33) (h33 : K 32 = true) (hf : ∀ j, s ≤ j → j < k → K j = false) (h : scanH K s k = []) : ∀ j, s ≤ j → j < 33 → K j = true := by
  induction hn : 33 - k generalizing s k with
  | zero =>
    obtain rfl : k = 33 := by omega
    intro j hj hj'
    by_cases h32 : s ≤ 32
    · have := hf 32 h32 (by omega)
      rw [h33] at this
      cases this
    · omega
  | succ n ih =>
    cases hkk : K k with
    | false =>
      rw [scanH_free (by omega) hkk] at h
      exact ih s (k + 1) (by omega) (by omega) (fun j hj hj' => by by_cases e : j = k; exact e ▸ hkk; exact hf j hj (by omega)) h (by omega)
    | true =>
      by_cases e : s = k
      · subst e
        rw [scanH_none (by omega) hkk] at h
        intro j hj hj'
        by_cases e : j = s
        · exact e ▸ hkk
        · exact ih (s + 1) (s + 1) (Nat.le_refl _) (by omega) (fun j hj hj' => by omega) h (by omega) j (by omega) hj'
      · rw [scanH_some (by omega) hkk e] at h
        cases h

theorem keptB_32 (l : List Int) : keptB l 32 = true := by unfold keptB; simp
theorem keptB_I (l : List Int) (j : Nat) (hj : j < 32) : keptB l j = keptI l (j : Int) := by
  unfold keptB keptI
  rw [show (j == 32) = false from beq_eq_false_iff_ne.2 (by omega), Bool.or_false]

/-- The hole from a line on. -/
def nextO (l : List Int) (x : Int) : Option (Nat × Nat) := bif rightT l then (scanH (keptB l) x.toNat x.toNat).head? else none
/-- The first one that is so long. -/
def fitsO (l : List Int) (n : Int) : Option (Nat × Nat) := (allL l).find? fun h => decide (1 ≤ n) && decide (n ≤ (h.2 : Int) - h.1)
def optV (o : Option (Nat × Nat)) : Value := .tuple #[encH (o.getD (0, 0)), .bool o.isSome]
end Go.Proofs.YtmgllljilnkkcaaDoor

/- The plain laws of layer 8: sums. No program in sight. -/
import Derived.Test.YtmgllljilnkkcaaDoorQ8
namespace Go.Proofs.YtmgllljilnkkcaaDoor
open Go Go.RowKit

theorem lensT_cons (x : Nat × Nat) (L : List (Nat × Nat)) (n : Nat) : lensT (x :: L) n = lensT L n + (if x.2 - x.1 = n then 1 else 0) := by
  unfold lensT
  rw [List.countP_cons]
  by_cases h : x.2 - x.1 = n
  · rw [if_pos h, if_pos (by simpa using h)]; omega
  · rw [if_neg h, if_neg (by simpa using h)]; omega
theorem lensT_bd (L : List (Nat × Nat)) (n : Nat) : 0 ≤ lensT L n ∧ lensT L n ≤ L.length := by
  unfold lensT
  have := List.countP_le_length (p := fun h : Nat × Nat => h.2 - h.1 == n) (l := L)
  omega
def sumK (L : List (Nat × Nat)) : Nat → Int
  | 0 => 0
  | m + 1 => sumK L m + ((m : Int) + 1) * lensT L (m + 1)
def mostK (L : List (Nat × Nat)) : Nat → Nat
  | 0 => 0
  | m + 1 => if 0 < lensT L (m + 1) then m + 1 else mostK L m
theorem sumK_cons (x : Nat × Nat) (L : List (Nat × Nat)) (h1 : x.1 < x.2) (m : Nat) : sumK (x :: L) m = sumK L m + (if x.2 - x.1 ≤ m then ((x.2 : Int) - x.1) else 0) := by
  induction m with
  | zero => rw [if_neg (by omega)]; rfl
  | succ m ih =>
    unfold sumK
    rw [ih, lensT_cons]
    by_cases h : x.2 - x.1 = m + 1
    · rw [if_pos h, if_neg (by omega), if_pos (by omega), Int.mul_add, Int.mul_one]; omega
    · rw [if_neg h]
      simp only [Int.add_zero]
      by_cases h2 : x.2 - x.1 ≤ m
      · rw [if_pos h2, if_pos (by omega)]; omega
      · rw [if_neg h2, if_neg (by omega)]; omega
theorem fold_shift (L : List (Nat × Nat)) (n : Int) : L.foldl (fun n h => n + ((h.2 : Int) - h.1)) n = n + roomH L := by
  induction L generalizing n with
  | nil => unfold roomH; simp
  | cons x L ih =>
    unfold roomH
    rw [List.foldl_cons, List.foldl_cons, ih, ih]
    omega
theorem roomH_cons (x : Nat × Nat) (L : List (Nat × Nat)) : roomH (x :: L) = ((x.2 : Int) - x.1) + roomH L := by
  conv => lhs; unfold roomH
  rw [List.foldl_cons, fold_shift]
  omega
theorem sumK_room (L : List (Nat × Nat)) (h : ∀ x ∈ L, x.1 < x.2 ∧ x.2 < 33) : sumK L 32 = roomH L := by
  induction L with
  | nil => decide +kernel
  | cons x L ih =>
    have hx := h x (List.mem_cons_self ..)
    rw [sumK_cons x L hx.1, ih (fun y hy => h y (List.mem_cons_of_mem _ hy)), roomH_cons, if_pos (by omega)]
    omega
theorem sumK_bd (L : List (Nat × Nat)) (hL : L.length ≤ 33) (m : Nat) (hm : m ≤ 32) : 0 ≤ sumK L m ∧ sumK L m ≤ 1089 * m := by
  induction m with
  | zero => exact ⟨Int.le_refl _, Int.le_refl _⟩
  | succ m ih =>
    have h1 := ih (by omega)
    have h2 := lensT_bd L (m + 1)
    unfold sumK
    have h3 : 0 ≤ ((m : Int) + 1) * lensT L (m + 1) := Int.mul_nonneg (by omega) h2.1
    have h4 : ((m : Int) + 1) * lensT L (m + 1) ≤ 33 * 33 := Int.mul_le_mul (by omega) (by omega) h2.1 (by decide)
    omega
theorem long_fold (L : List (Nat × Nat)) (n : Int) : n ≤ L.foldl (fun n h => max n ((h.2 : Int) - h.1)) n ∧ (∀ x ∈ L, (x.2 : Int) - x.1 ≤ L.foldl (fun n h => max n ((h.2 : Int) - h.1)) n) ∧ (L.foldl (fun n h => max n ((h.2 : Int) - h.1)) n = n ∨ ∃ x ∈ L, L.foldl (fun n h => max n ((h.2 : Int) - h.1)) n = (x.2 : Int) - x.1) := by
  induction L generalizing n with
  | nil => exact ⟨Int.le_refl _, (fun x hx => by cases hx), .inl rfl⟩
  | cons y L ih =>
    obtain ⟨h1, h2, h3⟩ := ih (max n ((y.2 : Int) - y.1))
    rw [List.foldl_cons]
    refine ⟨by omega, fun x hx => ?_, ?_⟩
    · rcases List.mem_cons.1 hx with rfl | hx
      · omega
      · exact h2 x hx
    · rcases h3 with h3 | ⟨x, hx, h3⟩
      · by_cases hc : n ≤ (y.2 : Int) - y.1
        · exact .inr ⟨y, List.mem_cons_self .., by omega⟩
        · exact .inl (by omega)
      · exact .inr ⟨x, List.mem_cons_of_mem _ hx, h3⟩
theorem lensT_pos {L : List (Nat × Nat)} {n : Nat} : 0 < lensT L n ↔ ∃ x ∈ L, x.2 - x.1 = n := by
  unfold lensT
  rw [show (0 : Int) < ((List.countP (fun h => h.2 - h.1 == n) L : Nat) : Int) ↔ 0 < List.countP (fun h => h.2 - h.1 == n) L by omega, List.countP_pos_iff]
  simp
theorem mostK_facts (L : List (Nat × Nat)) (m : Nat) : mostK L m ≤ m ∧ (∀ x ∈ L, 0 < x.2 - x.1 → x.2 - x.1 ≤ m → x.2 - x.1 ≤ mostK L m) ∧ (mostK L m = 0 ∨ ∃ x ∈ L, x.2 - x.1 = mostK L m) := by
  induction m with
  | zero => exact ⟨Nat.le_refl _, fun x _ h1 h2 => by omega, .inl rfl⟩
  | succ m ih =>
    obtain ⟨h1, h2, h3⟩ := ih
    unfold mostK
    by_cases h : 0 < lensT L (m + 1)
    · rw [if_pos h]
      exact ⟨Nat.le_refl _, fun x _ _ hx => hx, .inr (lensT_pos.1 h)⟩
    · rw [if_neg h]
      refine ⟨by omega, fun x hx h4 h5 => ?_, h3⟩
      by_cases e : x.2 - x.1 = m + 1
      · exact absurd (lensT_pos.2 ⟨x, hx, e⟩) h
      · exact h2 x hx h4 (by omega)
theorem mostK_long (L : List (Nat × Nat)) (h : ∀ x ∈ L, x.1 < x.2 ∧ x.2 < 33) : (mostK L 32 : Int) = longH L := by
  obtain ⟨h1, h2, h3⟩ := mostK_facts L 32
  obtain ⟨k1, k2, k3⟩ := long_fold L 0
  change 0 ≤ longH L at k1
  change ∀ x ∈ L, (x.2 : Int) - x.1 ≤ longH L at k2
  change longH L = 0 ∨ ∃ x ∈ L, longH L = (x.2 : Int) - x.1 at k3
  have a : (mostK L 32 : Int) ≤ longH L := by
    rcases h3 with h3 | ⟨x, hx, h3⟩
    · omega
    · have := k2 x hx; have := h x hx; omega
  have b : longH L ≤ (mostK L 32 : Int) := by
    rcases k3 with k3 | ⟨x, hx, k3⟩
    · omega
    · have := h x hx; have := h2 x hx (by omega) (by omega); omega
  omega

theorem scan_sum (K : Nat → Bool) (h33 : K 32 = true) (s k n : Nat) (hs : s ≤ k) (hn : 33 - k = n) (hk : k ≤ 33) (hf : ∀ i, s ≤ i → i < k → K i = false) :
    roomH (scanH K s k) = ((k : Int) - s) + (((List.range' k n).countP fun j => !K j : Nat) : Int) := by
  induction n generalizing s k with
  | zero =>
    rw [scanH_end K s k (by omega)]
    by_cases h : s ≤ 32
    · have := hf 32 h (by omega)
      rw [h33] at this
      cases this
    · show (0 : Int) = _
      simp
      omega
  | succ n ih =>
    rw [List.range'_succ, List.countP_cons]
    cases hkk : K k with
    | false =>
      rw [scanH_free (by omega) hkk, ih s (k + 1) (by omega) (by omega) (by omega) (fun i hi hi' => by by_cases e : i = k; exact e ▸ hkk; exact hf i hi (by omega))]
      simp
      omega
    | true =>
      have h1 := ih (k + 1) (k + 1) (Nat.le_refl _) (by omega) (by omega) (fun i hi hi' => by omega)
      by_cases e : s = k
      · subst e
        rw [scanH_none (by omega) hkk, h1]
        simp
      · rw [scanH_some (by omega) hkk e, roomH_cons, h1]
        simp
theorem room_count {l : List Int} (hr : rightT l = true) : roomH (allL l) = 32 - ((linesI l).length : Int) := by
  have e : allL l = scanH (keptB l) 0 0 := by unfold allL; rw [hr]; rfl
  rw [e, scan_sum _ (keptB_32 l) 0 0 33 (Nat.le_refl _) rfl (by decide) (fun i hi hi' => by omega)]
  have h1 := List.length_eq_countP_add_countP (keptB l) (l := List.range' 0 33)
  rw [List.length_range'] at h1
  have h2 : (List.range' 0 33).countP (keptB l) = (linesI l).length + 1 := by
    rw [← List.range_eq_range', List.range_succ, List.countP_append, List.countP_singleton, keptB_32, if_pos rfl]
    congr 1
    unfold linesI
    rw [hr]
    show _ = (List.map _ (linesT l)).length
    rw [List.length_map]
    unfold linesT
    rw [List.countP_eq_length_filter]
    congr 1
    refine List.filter_congr fun j hj => ?_
    have := List.mem_range.1 hj
    rw [keptB_I l j this, keptI_right hr j this]
  have h3 : (List.range' 0 33).countP (fun j => !keptB l j) = (List.range' 0 33).countP (fun a => decide ¬keptB l a = true) := by
    congr 1
    funext j
    cases keptB l j <;> rfl
  omega

theorem fits_more {L : List (Nat × Nat)} (h : ∀ x ∈ L, x.1 < x.2 ∧ x.2 < 33) : L.find? (longB ((mostK L 32 : Nat) + 1 : Int)) = none := by
  rw [List.find?_eq_none]
  intro x hx
  obtain ⟨h1, h2, h3⟩ := mostK_facts L 32
  have := h x hx
  have := h2 x hx (by omega) (by omega)
  unfold longB
  rw [decide_eq_false (show ¬ ((mostK L 32 : Nat) : Int) + 1 ≤ (x.2 : Int) - x.1 by omega), Bool.and_false]
  simp
theorem fits_most {L : List (Nat × Nat)} (h : ∀ x ∈ L, x.1 < x.2 ∧ x.2 < 33) :
    (mostK L 32 = 0 ∧ L.find? (longB ((mostK L 32 : Nat) : Int)) = none) ∨ (0 < mostK L 32 ∧ ∃ h1 h2 : Nat, L.find? (longB ((mostK L 32 : Nat) : Int)) = some (h1, h2) ∧ (h2 : Int) - h1 = (mostK L 32 : Nat) ∧ h2 < 33) := by
  obtain ⟨h1, h2, h3⟩ := mostK_facts L 32
  rcases Nat.eq_zero_or_pos (mostK L 32) with h0 | h0
  · refine .inl ⟨h0, ?_⟩
    rw [List.find?_eq_none]
    intro x hx
    unfold longB
    rw [decide_eq_false (show ¬ (1 : Int) ≤ (mostK L 32 : Nat) by omega), Bool.false_and]
    simp
  · refine .inr ⟨h0, ?_⟩
    rcases h3 with h3 | ⟨x, hx, h3⟩
    · omega
    · cases hf : L.find? (longB ((mostK L 32 : Nat) : Int)) with
      | none =>
        have := List.find?_eq_none.1 hf x hx
        unfold longB at this
        simp only [Bool.and_eq_true, decide_eq_true_eq, not_and] at this
        have h5 := h x hx
        exact absurd (this (by omega)) (by omega)
      | some y =>
        obtain ⟨y1, y2⟩ := y
        have h4 := List.find?_some hf
        have h5 := h _ (List.mem_of_find?_eq_some hf)
        have h6 := h2 _ (List.mem_of_find?_eq_some hf)
        unfold longB at h4
        simp only [Bool.and_eq_true, decide_eq_true_eq] at h4 h5 h6
        exact ⟨y1, y2, rfl, by omega, by omega⟩

end Go.Proofs.YtmgllljilnkkcaaDoor

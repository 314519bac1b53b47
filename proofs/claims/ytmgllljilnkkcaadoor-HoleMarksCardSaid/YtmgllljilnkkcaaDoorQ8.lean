/- The plain laws of layer 8. No program in sight. -/
import Derived.Test.YtmgllljilnkkcaaDoorH14
namespace Go.Proofs.YtmgllljilnkkcaaDoor
open Go Go.RowKit

/-- Where the walk from Next to Next stands behind k holes. -/
def fromW (L : List (Nat × Nat)) (k : Nat) : Nat := if k = 0 then 0 else (L.getD (k - 1) (0, 0)).2
theorem fromW_succ (L : List (Nat × Nat)) (k : Nat) : fromW L (k + 1) = (L.getD k (0, 0)).2 := by
  unfold fromW
  rw [if_neg (Nat.succ_ne_zero k), Nat.add_sub_cancel]
theorem fromW_zero (L : List (Nat × Nat)) : fromW L 0 = 0 := by unfold fromW; rw [if_pos (Eq.refl 0)]
theorem drop_walk {l : List Int} (hr : rightT l = true) (k : Nat) (hk : k ≤ (allL l).length) : scanH (keptB l) (fromW (allL l) k) (fromW (allL l) k) = (allL l).drop k := by
  induction k with
  | zero =>
    rw [fromW_zero, List.drop_zero]
    unfold allL
    rw [hr]
    rfl
  | succ k ih =>
    have h := ih (by omega)
    rw [List.drop_eq_getElem_cons (by omega)] at h
    obtain ⟨_, _, _, _, _, _, h7⟩ := scan_head _ _ _ _ _ (Nat.le_refl _) (fun j hj hj' => by omega) h
    have e : (allL l).getD k (0, 0) = (allL l)[k] := by simp [List.getD, show k < (allL l).length by omega]
    rw [fromW_succ, e, h7]
theorem next_walk (l : List Int) (k : Nat) (hk : k ≤ (allL l).length) : nextO l (fromW (allL l) k : Nat) = (allL l)[k]? := by
  unfold nextO
  cases hr : rightT l with
  | true =>
    show (scanH _ (Int.toNat (fromW (allL l) k : Nat)) _).head? = _
    rw [Int.toNat_natCast, drop_walk hr k hk, List.head?_drop]
  | false =>
    have e : allL l = [] := by unfold allL; rw [hr]; rfl
    rw [e]; rfl
theorem allL_len (l : List Int) : (allL l).length ≤ 33 := by
  unfold allL
  cases rightT l with
  | true => exact scanH_len (keptB l) 0 0 (Nat.le_refl _)
  | false => exact Nat.zero_le _

theorem hole_mem {l : List Int} (k : Nat) (hk : k < (allL l).length) : ((allL l).getD k (0, 0)).1 < ((allL l).getD k (0, 0)).2 ∧ ((allL l).getD k (0, 0)).2 ≤ 32 := by
  have e : (allL l).getD k (0, 0) = (allL l)[k] := by simp [List.getD, hk]
  have := allL_mem ((allL l)[k]) (List.getElem_mem hk)
  rw [e]
  omega
theorem hole_head {l : List Int} (hr : rightT l = true) (k : Nat) (hk : k < (allL l).length) :
    fromW (allL l) k ≤ ((allL l).getD k (0, 0)).1 ∧ (∀ j, ((allL l).getD k (0, 0)).1 ≤ j → j < ((allL l).getD k (0, 0)).2 → keptB l j = false) ∧ keptB l ((allL l).getD k (0, 0)).2 = true := by
  have e : (allL l).getD k (0, 0) = (allL l)[k] := by simp [List.getD, hk]
  have h := drop_walk hr k (by omega)
  rw [List.drop_eq_getElem_cons hk] at h
  obtain ⟨_, _, h3, _, h5, h6, _⟩ := scan_head _ _ _ _ _ (Nat.le_refl _) (fun j hj hj' => by omega) h
  rw [e]
  exact ⟨h3, h5, h6⟩
theorem hole_step {l : List Int} (hr : rightT l = true) (k : Nat) (hk : k + 1 < (allL l).length) : ((allL l).getD k (0, 0)).2 < ((allL l).getD (k + 1) (0, 0)).1 := by
  have h1 := hole_head hr k (by omega)
  have h2 := hole_head hr (k + 1) hk
  have h3 := hole_mem (l := l) (k + 1) hk
  rw [fromW_succ] at h2
  have h4 := h2.2.1 _ (Nat.le_refl _) h3.1
  rcases Nat.lt_or_eq_of_le h2.1 with h | h
  · exact h
  · rw [← h] at h4
    rw [h1.2.2] at h4
    cases h4

/-- Is line x in a hole? -/
def inB (x : Int) (h : Nat × Nat) : Bool := decide ((h.1 : Int) ≤ x) && decide (x < (h.2 : Int))
theorem scan_count (K : Nat → Bool) (j s k : Nat) (hs : s ≤ k) (hk : k ≤ 33) (h33 : K 32 = true) (hf : ∀ i, s ≤ i → i < k → K i = false) :
    (scanH K s k).countP (inB (j : Int)) = if s ≤ j ∧ j < 33 ∧ K j = false then 1 else 0 := by
  induction hn : 33 - k generalizing s k with
  | zero =>
    rw [scanH_end K s k (by omega)]
    rw [if_neg]
    · rfl
    · rintro ⟨h1, h2, h3⟩
      have := hf 32 (by omega) (by omega)
      rw [h33] at this
      cases this
  | succ n ih =>
    cases hkk : K k with
    | false =>
      rw [scanH_free (by omega) hkk]
      exact ih s (k + 1) (by omega) (by omega) (fun i hi hi' => by by_cases e : i = k; exact e ▸ hkk; exact hf i hi (by omega)) (by omega)
    | true =>
      have h1 := ih (k + 1) (k + 1) (Nat.le_refl _) (by omega) (fun i hi hi' => by omega) (by omega)
      by_cases e : s = k
      · subst e
        rw [scanH_none (by omega) hkk, h1]
        by_cases hj : j = s
        · subst hj
          rw [if_neg (by omega), if_neg (by rw [hkk]; simp)]
        · by_cases hc : s + 1 ≤ j ∧ j < 33 ∧ K j = false
          · rw [if_pos hc, if_pos ⟨by omega, hc.2⟩]
          · rw [if_neg hc, if_neg (fun h => hc ⟨by omega, h.2⟩)]
      · rw [scanH_some (by omega) hkk e, List.countP_cons, h1]
        by_cases hj : s ≤ j ∧ j < k
        · have e1 : inB (j : Int) (s, k) = true := by unfold inB; rw [decide_eq_true (show ((s, k).1 : Int) ≤ j by show (s : Int) ≤ j; omega), decide_eq_true (show (j : Int) < (s, k).2 by show (j : Int) < k; omega)]; rfl
          rw [e1, if_neg (show ¬ (k + 1 ≤ j ∧ j < 33 ∧ K j = false) by omega), if_pos (show s ≤ j ∧ j < 33 ∧ K j = false from ⟨hj.1, by omega, hf j hj.1 hj.2⟩)]
          rfl
        · have e1 : inB (j : Int) (s, k) = false := by
            unfold inB
            by_cases h : s ≤ j
            · rw [decide_eq_false (show ¬ (j : Int) < (s, k).2 by show ¬ (j : Int) < k; omega), Bool.and_false]
            · rw [decide_eq_false (show ¬ ((s, k).1 : Int) ≤ j by show ¬ (s : Int) ≤ j; omega), Bool.false_and]
          rw [e1]
          by_cases hc : k + 1 ≤ j ∧ j < 33 ∧ K j = false
          · rw [if_pos hc, if_pos (show s ≤ j ∧ j < 33 ∧ K j = false from ⟨by omega, hc.2⟩)]; rfl
          · rw [if_neg hc, if_neg (c := s ≤ j ∧ j < 33 ∧ K j = false)]; rfl
            rintro ⟨h1', h2', h3'⟩
            refine hc ⟨?_, h2', h3'⟩
            rcases Nat.lt_or_ge k j with h | h
            · omega
            · have : j = k := by omega
              rw [this, hkk] at h3'
              cases h3'
/-- How many holes of these a line is in. -/
def cntH (x : Int) (L : List (Nat × Nat)) : Int := ((L.countP (inB x) : Nat) : Int)
theorem cntH_zero (x : Int) : cntH x [] = 0 := rfl
theorem cntH_succ (x : Int) {L : List (Nat × Nat)} {k : Nat} (hk : k < L.length) : cntH x (L.take (k + 1)) = cntH x (L.take k) + (bif inB x (L.getD k (0, 0)) then 1 else 0) := by
  have e : L.getD k (0, 0) = L[k] := by simp [List.getD, hk]
  unfold cntH
  rw [e, List.take_add_one, List.getElem?_eq_getElem hk, List.countP_append]
  simp only [Option.toList_some, List.countP_singleton]
  cases inB x L[k] <;> simp
theorem cntH_bd (x : Int) (L : List (Nat × Nat)) : 0 ≤ cntH x L ∧ cntH x L ≤ L.length := by
  unfold cntH
  have := List.countP_le_length (p := inB x) (l := L)
  omega
/-- A line of a table is in just one hole, or in none. -/
theorem cntH_all {l : List Int} (hr : rightT l = true) (x : Int) : cntH x (allL l) = bif decide (0 ≤ x) && (decide (x < 32) && !keptI l x) then 1 else 0 := by
  have e : allL l = scanH (keptB l) 0 0 := by unfold allL; rw [hr]; rfl
  rw [e]
  unfold cntH
  by_cases h0 : 0 ≤ x
  · obtain ⟨j, rfl⟩ : ∃ j : Nat, x = j := ⟨x.toNat, by omega⟩
    rw [scan_count _ j 0 0 (Nat.le_refl _) (by omega) (keptB_32 l) (fun i hi hi' => by omega), decide_eq_true h0]
    by_cases h1 : j < 32
    · rw [decide_eq_true (show (j : Int) < 32 by omega), keptB_I l j h1]
      cases keptI l (j : Int) with
      | true => rw [if_neg (by simp)]; rfl
      | false => rw [if_pos ⟨Nat.zero_le _, by omega, rfl⟩]; rfl
    · rw [decide_eq_false (show ¬ (j : Int) < 32 by omega)]
      rw [if_neg]; rfl
      rintro ⟨_, h2, h3⟩
      obtain rfl : j = 32 := by omega
      rw [keptB_32] at h3
      cases h3
  · rw [decide_eq_false h0]
    have e0 : ∀ L : List (Nat × Nat), L.countP (inB x) = 0 := fun L => by
      rw [List.countP_eq_zero]
      intro h _
      unfold inB
      rw [decide_eq_false (show ¬ (h.1 : Int) ≤ x by omega)]
      simp
    rw [e0]; rfl

/-- A list of holes, the empty one among them, met at a place. -/
theorem HolesV.at_ {w : World} {a : Option Addr} {cap : Nat} {L : List (Nat × Nat)} (h : HolesV w (.slice a L.length cap) L) (i : Nat) (hi : i < L.length) :
    ∃ b, a = Option.some ⟨b, 0, none⟩ ∧ w.cell? ⟨b, i * 2, none⟩ = Option.some (.int .i64 (L.getD i (0, 0)).1) ∧ w.cell? ⟨b, i * 2 + 1, none⟩ = Option.some (.int .i64 (L.getD i (0, 0)).2) := by
  generalize hn : L.length = n at h
  generalize hv : Value.slice a n cap = v at h
  cases h with
  | some b cap' l hl hm hc => cases hv; exact ⟨b, rfl, hc i hi⟩
  | empty a' cap' => exact absurd hi (Nat.not_lt_zero i)
end Go.Proofs.YtmgllljilnkkcaaDoor

/- Layer bits: bits are their places (plain). -/
import Derived.Test.YtlncilcoohmlkaaDoorP3
namespace Go.Proofs.YtlncilcoohmlkaaDoor

/-- Words that agree in all places are the same. -/
theorem words_ext {ws us : List Nat} (hl : ws.length = us.length) (h1 : ∀ i, ws.getD i 0 < 4294967296) (h2 : ∀ i, us.getD i 0 < 4294967296) (h : ∀ i, i < 32 * ws.length → onB ws i = onB us i) : ws = us := by
  refine eq_of_getDW hl fun k hk => Nat.eq_of_testBit_eq fun j => ?_
  by_cases hj : j < 32
  · have := h (32 * k + j) (by omega)
    unfold onB at this
    rwa [show (32 * k + j) / 32 = k by omega, show (32 * k + j) % 32 = j by omega] at this
  · have hp : (4294967296 : Nat) ≤ 2 ^ j := by
      have : (2 : Nat) ^ 32 ≤ 2 ^ j := Nat.pow_le_pow_right (by decide) (by omega)
      simpa using this
    rw [Nat.testBit_lt_two_pow (Nat.lt_of_lt_of_le (h1 k) hp), Nat.testBit_lt_two_pow (Nat.lt_of_lt_of_le (h2 k) hp)]

/-- The places of a list set, one after another. -/
def setAll (us : List Nat) (L : List Nat) : List Nat := L.foldl (fun us i => setW us i true) us
theorem setAll_len (us L : List Nat) : (setAll us L).length = us.length := by
  unfold setAll
  induction L generalizing us with
  | nil => rfl
  | cons a L ih => rw [List.foldl_cons, ih, setW_len]
theorem setAll_succ (us L : List Nat) (k : Nat) (hk : k < L.length) : setAll us (L.take (k + 1)) = setW (setAll us (L.take k)) (L.getD k 0) true := by
  unfold setAll
  rw [List.take_add_one, List.foldl_append]
  simp [List.getD, hk]
theorem onB_setAll {us L : List Nat} (hL : ∀ x ∈ L, x < 32 * us.length) (j : Nat) : onB (setAll us L) j = (decide (j ∈ L) || onB us j) := by
  unfold setAll
  induction L generalizing us with
  | nil => simp
  | cons a L ih =>
    rw [List.foldl_cons, ih (fun x hx => by rw [setW_len]; exact hL x (List.mem_cons_of_mem _ hx)), onB_setW (hL a List.mem_cons_self)]
    by_cases e : j = a
    · subst e; simp
    · simp [e]
theorem right_setAll {N : Nat} {us : List Nat} (hr : rightB (N : Int) us = true) (L : List Nat) (hL : ∀ x ∈ L, x < N) : rightB (N : Int) (setAll us L) = true := by
  unfold setAll
  induction L generalizing us with
  | nil => exact hr
  | cons a L ih => rw [List.foldl_cons]; exact ih (right_setW hr (hL a List.mem_cons_self) true) fun x hx => hL x (List.mem_cons_of_mem _ hx)
theorem zeros_on (k j : Nat) : onB (List.replicate k 0) j = false := by
  unfold onB
  have : (List.replicate k 0).getD (j / 32) 0 = 0 := by simp only [List.getD, List.getElem?_replicate]; split <;> rfl
  rw [this]; exact Nat.zero_testBit _
theorem zeros_right {N : Nat} (hN : N ≤ 20000) : rightB (N : Int) (List.replicate ((N + 31) / 32) 0) = true := rightB_mk hN (by simp) fun i _ _ => zeros_on _ _
theorem list_mem {N : Nat} {ws : List Nat} (hr : rightB (N : Int) ws = true) (j : Nat) : j ∈ listN (N : Int) ws ↔ j < N ∧ onB ws j = true := by
  unfold listN
  rw [hr]
  simp only [cond_true, placesL, List.mem_filter, List.mem_range, Int.toNat_natCast, soB]
  constructor
  · rintro ⟨h1, h2⟩; simp at h2; exact ⟨h1, h2⟩
  · rintro ⟨h1, h2⟩; simp [h1, h2]
theorem setAll_lt {us L : List Nat} (h : ∀ i, us.getD i 0 < 4294967296) (i : Nat) : (setAll us L).getD i 0 < 4294967296 := by
  unfold setAll
  induction L generalizing us with
  | nil => exact h i
  | cons a L ih =>
    rw [List.foldl_cons]
    refine ih fun j => ?_
    by_cases hj : j < us.length
    · rw [setW_get _ _ _ _ hj]; exact setF_lt (n := us.length) (fun k _ => h k) j hj
    · have : (setW us a true).getD j 0 = 0 := by simp [List.getD, setW_len, show us.length ≤ j by omega]
      rw [this]; decide
/-- P2.1, the way back: right bits are the zeros with their places set. -/
theorem back_law {N : Nat} {ws : List Nat} (hr : rightB (N : Int) ws = true) (hw : ∀ i, ws.getD i 0 < 4294967296) : ws = setAll (List.replicate ((N + 31) / 32) 0) (listN (N : Int) ws) := by
  obtain ⟨M, e, h1, h2, h3⟩ := rightB_iff hr
  obtain rfl : N = M := by omega
  refine words_ext (by rw [setAll_len, List.length_replicate]; exact h2) hw (setAll_lt fun i => by simp only [List.getD, List.getElem?_replicate]; split <;> decide) fun i hi => ?_
  rw [onB_setAll (fun x hx => by have := (list_mem hr x).1 hx; rw [List.length_replicate]; omega), zeros_on, Bool.or_false]
  by_cases hN : i < N
  · cases ho : onB ws i with
    | true => rw [decide_eq_true ((list_mem hr i).2 ⟨hN, ho⟩)]
    | false => rw [decide_eq_false (fun h => by have := ((list_mem hr i).1 h).2; rw [ho] at this; cases this)]
  · rw [h3 i (by omega) hi, decide_eq_false (fun h => hN ((list_mem hr i).1 h).1)]
end Go.Proofs.YtlncilcoohmlkaaDoor

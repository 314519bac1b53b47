/- Layer bits: what is filled (plain). -/
import Derived.Test.YtlncilcoohmlkaaDoorP4
import Derived.Test.YtlncilcoohmlkaaDoorU8
namespace Go.Proofs.YtlncilcoohmlkaaDoor

def turnAll (ws : List Nat) (L : List Nat) (on : Bool) : List Nat := L.foldl (fun us i => setW us i on) ws
theorem turnAll_len (ws L : List Nat) (on : Bool) : (turnAll ws L on).length = ws.length := by
  unfold turnAll
  induction L generalizing ws with
  | nil => rfl
  | cons a L ih => rw [List.foldl_cons, ih, setW_len]
theorem turnAll_get (ws L : List Nat) (on : Bool) (f : Nat → Nat) (hf : ∀ j, j < ws.length → ws.getD j 0 = f j) (j : Nat) (hj : j < ws.length) : (turnAll ws L on).getD j 0 = L.foldl (setF on) f j := by
  unfold turnAll
  induction L generalizing ws f with
  | nil => exact hf j hj
  | cons a L ih =>
    rw [List.foldl_cons, List.foldl_cons]
    refine ih (setW ws a on) (setF on f a) (fun j hj => ?_) (by rw [setW_len]; exact hj)
    rw [setW_len] at hj
    rw [setW_get ws a on j hj]
    unfold setF
    dsimp only
    rw [hf j hj]
theorem fillW_len (ws : List Nat) (i k : Nat) (on : Bool) : (fillW ws i k on).length = ws.length := by simp [fillW]
theorem fillW_eq (ws : List Nat) (i k : Nat) (on : Bool) : fillW ws i k on = turnAll ws (fromTo i k) on := by
  refine eq_of_getDW (by rw [fillW_len, turnAll_len]) fun j hj => ?_
  rw [fillW_len] at hj
  rw [turnAll_get ws _ on (fun j => ws.getD j 0) (fun _ _ => rfl) j hj]
  simp [fillW, List.getD, hj]
theorem fillW_zero (ws : List Nat) (i : Nat) (on : Bool) : fillW ws i 0 on = ws := by rw [fillW_eq]; rfl
theorem fillW_succ (ws : List Nat) (i k : Nat) (on : Bool) : fillW ws i (k + 1) on = setW (fillW ws i k on) (i + k) on := by
  rw [fillW_eq, fillW_eq]
  unfold turnAll fromTo
  rw [List.range_succ, List.map_append, List.foldl_append]
  rfl
theorem onB_fillW {ws : List Nat} {i k : Nat} (h : i + k ≤ 32 * ws.length) (on : Bool) (j : Nat) : onB (fillW ws i k on) j = if i ≤ j ∧ j < i + k then on else onB ws j := by
  induction k with
  | zero => rw [fillW_zero, if_neg (by omega)]
  | succ k ih =>
    rw [fillW_succ, onB_setW (by rw [fillW_len]; omega), ih (by omega)]
    by_cases e : j = i + k
    · rw [if_pos e, if_pos (by omega)]
    · rw [if_neg e]
      by_cases e2 : i ≤ j ∧ j < i + k
      · rw [if_pos e2, if_pos (by omega)]
      · rw [if_neg e2, if_neg (by omega)]
theorem right_fillW {N : Nat} {ws : List Nat} (hr : rightB (N : Int) ws = true) {i k : Nat} (h : i + k ≤ N) (on : Bool) : rightB (N : Int) (fillW ws i k on) = true := by
  induction k with
  | zero => rw [fillW_zero]; exact hr
  | succ k ih => rw [fillW_succ]; exact right_setW (ih (by omega)) (by omega) on
theorem fillW_both {N : Nat} {ws : List Nat} (hr : rightB (N : Int) ws = true) {i k : Nat} (h : i + k ≤ N) (h1 : ∀ j, (fillW (fillW ws i k true) i k false).getD j 0 < 4294967296) (h2 : ∀ j, (fillW ws i k false).getD j 0 < 4294967296) :
    fillW (fillW ws i k true) i k false = fillW ws i k false := by
  obtain ⟨M, e, h3, h4, h5⟩ := rightB_iff hr
  obtain rfl : N = M := by omega
  refine words_ext (by rw [fillW_len, fillW_len, fillW_len]) h1 h2 fun j _ => ?_
  rw [onB_fillW (by rw [fillW_len]; omega), onB_fillW (by omega), onB_fillW (by omega)]
  by_cases e : i ≤ j ∧ j < i + k
  · rw [if_pos e, if_pos e]
  · rw [if_neg e, if_neg e, if_neg e]

theorem listN_count {N : Nat} {ws : List Nat} (hr : rightB (N : Int) ws = true) : (listN (N : Int) ws).length = (List.range N).countP fun j => onB ws j := by
  unfold listN
  rw [hr, cond_true, Int.toNat_natCast, List.countP_eq_length_filter]
  unfold placesL
  congr 1
  refine List.filter_congr fun j _ => ?_
  unfold soB
  simp
theorem count_or {α : Type} (L : List α) (p q : α → Bool) : L.countP (fun x => p x || q x) = L.countP p + L.countP fun x => !p x && q x := by
  induction L with
  | nil => rfl
  | cons a L ih =>
    simp only [List.countP_cons, ih]
    cases p a <;> cases q a <;> simp <;> omega
theorem count_between (i k N : Nat) : (List.range N).countP (fun j => decide (i ≤ j ∧ j < i + k)) = min N (i + k) - min N i := by
  induction N with
  | zero => simp
  | succ N ih =>
    rw [List.range_succ, List.countP_append, ih]
    by_cases e : i ≤ N ∧ N < i + k
    · simp [e]; omega
    · rw [List.countP_cons, decide_eq_false e]; simp; omega
theorem count_fills {N : Nat} {ws : List Nat} (hr : rightB (N : Int) ws = true) {i k : Nat} (h : i + k ≤ N) : (listN (N : Int) (fillW ws i k true)).length = (listN (N : Int) (fillW ws i k false)).length + k := by
  rw [listN_count (right_fillW hr h true), listN_count (right_fillW hr h false)]
  obtain ⟨M, e, h3, h4, h5⟩ := rightB_iff hr
  obtain rfl : N = M := by omega
  have e1 : (fun j => onB (fillW ws i k true) j) = fun j => decide (i ≤ j ∧ j < i + k) || onB ws j := by
    funext j
    rw [onB_fillW (by omega)]
    by_cases e : i ≤ j ∧ j < i + k
    · rw [if_pos e, decide_eq_true e]; rfl
    · rw [if_neg e, decide_eq_false e]; rfl
  have e2 : (fun j => onB (fillW ws i k false) j) = fun j => !decide (i ≤ j ∧ j < i + k) && onB ws j := by
    funext j
    rw [onB_fillW (by omega)]
    by_cases e : i ≤ j ∧ j < i + k
    · rw [if_pos e, decide_eq_true e]; rfl
    · rw [if_neg e, decide_eq_false e]; rfl
  rw [e1, e2, count_or, count_between]
  omega
end Go.Proofs.YtlncilcoohmlkaaDoor

/- Layer bits: from one Next to the next one (plain). -/
import Derived.Test.YtlncilcoohmlkaaDoorP2
namespace Go.Proofs.YtlncilcoohmlkaaDoor

def listN (n : Int) (ws : List Nat) : List Nat := bif rightB n ws then placesL ws n.toNat 0 true else []
theorem listI_eq (n : Int) (ws : List Nat) : listI n ws = (listN n ws).map (fun k : Nat => (k : Int)) := by
  unfold listI listN
  cases rightB n ws <;> rfl
def fromP (L : List Nat) (k : Nat) : Nat := if k = 0 then 0 else L.getD (k - 1) 0 + 1
theorem fromP_succ (L : List Nat) (k : Nat) : fromP L (k + 1) = L.getD k 0 + 1 := by simp [fromP]
theorem getD_mono {L : List Nat} (h : L.Pairwise (· < ·)) {i j : Nat} (hij : i < j) (hj : j < L.length) : L.getD i 0 < L.getD j 0 := by
  have hi : i < L.length := by omega
  have := List.pairwise_iff_getElem.1 h i j hi hj hij
  simpa [List.getD, hj, hi] using this
theorem from_le {L : List Nat} (h : L.Pairwise (· < ·)) {k : Nat} (hk : k < L.length) : fromP L k ≤ L.getD k 0 := by
  unfold fromP
  by_cases e : k = 0
  · rw [if_pos e]; omega
  · rw [if_neg e]; have := getD_mono h (i := k - 1) (j := k) (by omega) hk; omega
theorem filter_from {L : List Nat} (h : L.Pairwise (· < ·)) {k : Nat} (hk : k ≤ L.length) : (L.filter fun n => decide (fromP L k ≤ n)).head? = L[k]? := by
  have e1 : (L.take k).filter (fun n => decide (fromP L k ≤ n)) = [] := by
    rw [List.filter_eq_nil_iff]
    intro a ha
    obtain ⟨i, hi, rfl⟩ := List.getElem_of_mem ha
    have hik : i < k := by simp at hi; omega
    have hiL : i < L.length := by omega
    rw [List.getElem_take, decide_eq_true_iff]
    unfold fromP
    rw [if_neg (by omega)]
    by_cases e : i = k - 1
    · subst e; simp [List.getD, hiL]
    · have := getD_mono h (i := i) (j := k - 1) (by omega) (by omega)
      rw [show L.getD i 0 = L[i] by simp [List.getD, hiL]] at this
      omega
  have e2 : (L.drop k).filter (fun n => decide (fromP L k ≤ n)) = L.drop k := by
    rw [List.filter_eq_self]
    intro a ha
    obtain ⟨i, hi, rfl⟩ := List.getElem_of_mem ha
    have hiL : k + i < L.length := by simp at hi; omega
    rw [List.getElem_drop, decide_eq_true_iff]
    have h1 := from_le h (k := k) (by omega)
    have e3 : L.getD (k + i) 0 = L[k + i] := by simp [List.getD, hiL]
    by_cases e : i = 0
    · subst e; rw [← e3]; exact h1
    · have := getD_mono h (i := k) (j := k + i) (by omega) hiL
      omega
  have e3 := List.take_append_drop k L
  rw [← e3, List.filter_append]
  rw [e3, e1, e2, List.nil_append, List.head?_drop]
theorem places_sorted (ws : List Nat) (N : Nat) (x : Int) (on : Bool) : (placesL ws N x on).Pairwise (· < ·) := List.Pairwise.filter _ List.pairwise_lt_range
theorem places_from (ws : List Nat) (N : Nat) (x : Nat) (on : Bool) : placesL ws N (x : Int) on = (placesL ws N 0 on).filter fun n => decide (x ≤ n) := by
  unfold placesL
  rw [List.filter_filter]
  congr 1
  funext n
  unfold soB
  by_cases h : x ≤ n
  · simp [h]
  · simp [h]
theorem listN_sorted (n : Int) (ws : List Nat) : (listN n ws).Pairwise (· < ·) := by
  unfold listN
  cases rightB n ws
  · exact List.Pairwise.nil
  · exact places_sorted _ _ _ _
theorem next_walk2 (n : Int) (ws : List Nat) {k : Nat} (hk : k ≤ (listN n ws).length) : nextI n ws (fromP (listN n ws) k : Nat) true = (listN n ws)[k]? := by
  have h := filter_from (listN_sorted n ws) hk
  rw [← h]
  unfold nextI listN
  cases rightB n ws with
  | false => rfl
  | true => simp only [cond_true]; rw [places_from]
theorem has_list {n : Int} {ws : List Nat} {x : Nat} (hx : x ∈ listN n ws) : hasB n ws (x : Int) = true := by
  unfold listN at hx
  unfold hasB
  cases hr : rightB n ws with
  | false => rw [hr] at hx; simp at hx
  | true =>
    rw [hr] at hx
    obtain ⟨N, rfl, -⟩ := rightB_iff hr
    simp only [cond_true, placesL, List.mem_filter, List.mem_range, Int.toNat_natCast, soB] at hx
    obtain ⟨h1, h2⟩ := hx
    simp at h2
    simp [h2]
    omega
end Go.Proofs.YtlncilcoohmlkaaDoor

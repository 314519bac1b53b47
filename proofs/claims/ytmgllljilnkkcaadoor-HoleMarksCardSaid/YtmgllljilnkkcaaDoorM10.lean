/- Layer marks: which lines are kept once an extent is marked: no program in sight. -/
import Derived.Test.YtmgllljilnkkcaaDoorM9
namespace Go.Proofs.YtmgllljilnkkcaaDoor

theorem linesI_mem_iff {l : List Int} (h : rightT l = true) (x : Int) : x ∈ linesI l ↔ ∃ n : Nat, n < 32 ∧ x = n ∧ keptT l n = true := by
  unfold linesI
  rw [h]
  show x ∈ (linesT l).map (fun n : Nat => (n : Int)) ↔ _
  rw [List.mem_map]
  constructor
  · rintro ⟨n, hn, rfl⟩
    obtain ⟨h1, h2⟩ := List.mem_filter.1 hn
    exact ⟨n, List.mem_range.1 h1, rfl, h2⟩
  · rintro ⟨n, h1, rfl, h2⟩
    exact ⟨n, List.mem_filter.2 ⟨List.mem_range.2 h1, h2⟩, rfl⟩
theorem linesI_none {l : List Int} (h : rightT l = false) (x : Int) : x ∉ linesI l := by
  unfold linesI
  rw [h]
  exact List.not_mem_nil
theorem keptT_iff (l : List Int) (n : Nat) : keptT l n = true ↔ l.getD n 0 ≠ 0 ∨ 0 < n ∧ l.getD (n - 1) 0 = 2 := by
  unfold keptT
  simp

/-- The lines of an extent are kept. -/
theorem mark_keeps {l : List Int} (h : rightT l = true) (a n : Int) (hx : extB a n = true) (i : Int) (h1 : a / 128 ≤ i) (h2 : i ≤ (a + n - 1) / 128) : i ∈ linesI (markT l a n) := by
  obtain ⟨g1, g2, g3, g4, g5⟩ := (extB_iff a n).1 hx
  rw [linesI_mem_iff (right_markT h a n)]
  refine ⟨i.toNat, by omega, by omega, ?_⟩
  rw [keptT_iff, markT_getD _ _ _ _ (by omega)]
  have h0 := ((right_iff l).1 h).2 i.toNat (by omega)
  by_cases h128 : n ≤ 128
  · by_cases e : i.toNat = (a / 128).toNat
    · left
      unfold markF
      rw [if_pos h128, if_pos e]
      decide
    · right
      refine ⟨by omega, ?_⟩
      rw [markT_getD _ _ _ _ (by omega)]
      unfold markF
      rw [if_pos h128, if_pos (by omega)]
  · left
    unfold markF
    rw [if_neg h128, if_pos (by omega)]
    omega
/-- What was kept is kept. -/
theorem mark_keeps2 {l : List Int} (h : rightT l = true) (a n : Int) (x : Int) (hx : x ∈ linesI l) : x ∈ linesI (markT l a n) := by
  rw [linesI_mem_iff h] at hx
  obtain ⟨k, hk, rfl, hkk⟩ := hx
  rw [linesI_mem_iff (right_markT h a n)]
  refine ⟨k, hk, rfl, ?_⟩
  rw [keptT_iff] at hkk ⊢
  have q := ((right_iff l).1 h).2
  have q1 := q k hk
  have q2 := q (k - 1) (by omega)
  rw [markT_getD _ _ _ _ hk, markT_getD _ _ _ _ (by omega)]
  unfold markF
  rcases hkk with hkk | ⟨h0, hkk⟩
  · left
    (repeat' split) <;> omega
  · right
    refine ⟨h0, ?_⟩
    (repeat' split) <;> omega
/-- The lines of a lone extent. -/
theorem mark_lone (a n : Int) (hx : extB a n = true) (x : Int) :
    x ∈ linesI (markT (List.replicate 32 0) a n) ↔ a / 128 ≤ x ∧ x ≤ (if n ≤ 128 then min (a / 128 + 1) 31 else (a + n - 1) / 128) := by
  obtain ⟨g1, g2, g3, g4, g5⟩ := (extB_iff a n).1 hx
  have hr : rightT (List.replicate 32 0) = true := by decide
  have z : ∀ j, j < 32 → (List.replicate 32 (0 : Int)).getD j 0 = 0 := fun j hj => by rw [List.getD_eq_getElem?_getD, List.getElem?_replicate, if_pos hj]; rfl
  rw [linesI_mem_iff (right_markT hr a n)]
  constructor
  · rintro ⟨k, hk, rfl, hkk⟩
    rw [keptT_iff, markT_getD _ _ _ _ hk, markT_getD _ _ _ _ (by omega)] at hkk
    unfold markF at hkk
    rw [z k hk, z (k - 1) (by omega)] at hkk
    by_cases h128 : n ≤ 128
    · rw [if_pos h128] at hkk ⊢
      rw [if_pos h128] at hkk
      rcases hkk with hkk | ⟨h0, hkk⟩
      · split at hkk <;> omega
      · split at hkk <;> omega
    · rw [if_neg h128] at hkk ⊢
      rw [if_neg h128] at hkk
      rcases hkk with hkk | ⟨h0, hkk⟩
      · split at hkk <;> omega
      · split at hkk <;> omega
  · rintro ⟨h1, h2⟩
    by_cases h128 : n ≤ 128
    · rw [if_pos h128] at h2
      refine ⟨x.toNat, by omega, by omega, ?_⟩
      rw [keptT_iff, markT_getD _ _ _ _ (by omega), markT_getD _ _ _ _ (by omega)]
      unfold markF
      rw [if_pos h128, if_pos h128]
      by_cases e : x.toNat = (a / 128).toNat
      · left; rw [if_pos e]; decide
      · right; exact ⟨by omega, by rw [if_pos (by omega)]⟩
    · rw [if_neg h128] at h2
      exact (linesI_mem_iff (right_markT hr a n) x).1 (mark_keeps hr a n hx x h1 h2)

theorem filter_len {p q : Nat → Bool} (h : ∀ k, p k = q k) (n : Nat) : ((List.range n).filter p).length = ((List.range n).filter q).length := by
  congr 1
  exact List.filter_congr fun k _ => h k
theorem filter_ival (a b n : Nat) (hab : a ≤ b) (hb : b ≤ n) : ((List.range n).filter fun k => decide (a ≤ k) && decide (k < b)).length = b - a := by
  induction n generalizing b with
  | zero => simp; omega
  | succ n ih =>
    rw [List.range_succ, List.filter_append, List.length_append]
    by_cases e : b = n + 1
    · subst e
      have h1 := ih (b := n)
      by_cases e2 : a = n + 1
      · subst e2
        have : (List.range n).filter (fun k => decide (n + 1 ≤ k) && decide (k < n + 1)) = [] := List.filter_eq_nil_iff.2 fun k hk => by have := List.mem_range.1 hk; simp <;> omega
        rw [this]; simp
      · have h2 := h1 (by omega) (Nat.le_refl _)
        have h3 : ((List.range n).filter fun k => decide (a ≤ k) && decide (k < n + 1)) = ((List.range n).filter fun k => decide (a ≤ k) && decide (k < n)) :=
          List.filter_congr fun k hk => by have := List.mem_range.1 hk; rw [decide_eq_true (show k < n + 1 by omega), decide_eq_true this]
        rw [h3, h2]
        have h4 : ([n].filter fun k => decide (a ≤ k) && decide (k < n + 1)) = [n] := by simp; omega
        rw [h4]; simp; omega
    · have h2 := ih b hab (by omega)
      rw [h2]
      have h4 : ([n].filter fun k => decide (a ≤ k) && decide (k < b)) = [] := by simp <;> omega
      rw [h4]; simp
theorem mark_lone_count (a n : Int) (hx : extB a n = true) :
    ((linesI (markT (List.replicate 32 0) a n)).length : Int) = (if n ≤ 128 then min (a / 128 + 1) 31 else (a + n - 1) / 128) - a / 128 + 1 := by
  obtain ⟨g1, g2, g3, g4, g5⟩ := (extB_iff a n).1 hx
  have hr : rightT (List.replicate 32 0) = true := by decide
  have hT : (linesI (markT (List.replicate 32 0) a n)).length = (linesT (markT (List.replicate 32 0) a n)).length := by
    unfold linesI; rw [right_markT hr]; show (List.map _ _).length = _; rw [List.length_map]
  have hmem := mark_lone a n hx
  generalize hto : (if n ≤ 128 then min (a / 128 + 1) 31 else (a + n - 1) / 128) = to at *
  have hto1 : a / 128 ≤ to ∧ to ≤ 31 := by subst hto; split <;> omega
  rw [hT]
  have : (linesT (markT (List.replicate 32 0) a n)).length = ((List.range 32).filter fun k => decide ((a / 128).toNat ≤ k) && decide (k < (to + 1).toNat)).length := by
    congr 1
    unfold linesT
    refine List.filter_congr fun k hk => ?_
    have hk' := List.mem_range.1 hk
    have h1 := hmem (k : Int)
    rw [linesI_mem_iff (right_markT hr a n)] at h1
    rw [Bool.eq_iff_iff, Bool.and_eq_true, decide_eq_true_iff, decide_eq_true_iff]
    constructor
    · intro h
      have := h1.1 ⟨k, hk', rfl, h⟩
      omega
    · intro h
      obtain ⟨m, hm, e, hmk⟩ := h1.2 (by omega)
      have : m = k := by omega
      subst this
      exact hmk
  rw [this, filter_ival _ _ _ (by omega) (by omega)]
  omega
/-- Merged and marked. -/
theorem merge_mem {l m : List Int} (h : rightT l = true) (k : rightT m = true) (x : Int) : x ∈ linesI (mergeT l m) ↔ x ∈ linesI l ∨ x ∈ linesI m := by
  rw [linesI_mem_iff h, linesI_mem_iff k, linesI_mem_iff (right_mergeT h k)]
  have ql := ((right_iff l).1 h).2
  have qm := ((right_iff m).1 k).2
  have key : ∀ n, n < 32 → (keptT (mergeT l m) n = true ↔ keptT l n = true ∨ keptT m n = true) := by
    intro n hn
    rw [keptT_iff, keptT_iff, keptT_iff, mergeT_getD _ _ _ hn, mergeT_getD _ _ _ (by omega)]
    have := ql n hn
    have := qm n hn
    have := ql (n - 1) (by omega)
    have := qm (n - 1) (by omega)
    omega
  constructor
  · rintro ⟨n, h1, rfl, h2⟩
    rcases (key n h1).1 h2 with h3 | h3
    · exact .inl ⟨n, h1, rfl, h3⟩
    · exact .inr ⟨n, h1, rfl, h3⟩
  · rintro (⟨n, h1, rfl, h2⟩ | ⟨n, h1, rfl, h2⟩)
    · exact ⟨n, h1, rfl, (key n h1).2 (.inl h2)⟩
    · exact ⟨n, h1, rfl, (key n h1).2 (.inr h2)⟩
theorem merge_comm (l m : List Int) : mergeT l m = mergeT m l := by
  unfold mergeT
  refine List.map_congr_left fun i _ => ?_
  omega
theorem merge_mark {l m : List Int} (h : rightT l = true) (k : rightT m = true) (a n : Int) : mergeT (markT l a n) m = markT (mergeT l m) a n := by
  refine ext32 (mergeT_len _ _) (markT_len _ _ _) fun j hj => ?_
  rw [mergeT_getD _ _ _ hj, markT_getD _ _ _ _ hj, markT_getD _ _ _ _ hj]
  have := ((right_iff l).1 h).2 j hj
  have := ((right_iff m).1 k).2 j hj
  unfold markF
  rw [mergeT_getD _ _ _ hj]
  (repeat' split) <;> omega
end Go.Proofs.YtmgllljilnkkcaaDoor

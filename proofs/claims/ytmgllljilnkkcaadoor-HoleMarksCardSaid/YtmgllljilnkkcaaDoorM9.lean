/- Layer marks: what is marked, as lists: no program in sight. -/
import Derived.Test.YtmgllljilnkkcaaDoorM8
namespace Go.Proofs.YtmgllljilnkkcaaDoor

theorem right_iff (l : List Int) : rightT l = true ↔ l.length = 32 ∧ ∀ j, j < 32 → 0 ≤ l.getD j 0 ∧ l.getD j 0 ≤ 2 := by
  unfold rightT
  rw [Bool.and_eq_true, decide_eq_true_iff]
  constructor
  · rintro ⟨h1, h2⟩
    refine ⟨h1, fun j hj => ?_⟩
    have := List.all_eq_true.1 h2 (l.getD j 0) (mem_getD (by omega))
    unfold okN at this
    simpa using this
  · rintro ⟨h1, h2⟩
    refine ⟨h1, all_true_of fun j hj => ?_⟩
    have := h2 j (by omega)
    unfold okN
    rw [decide_eq_true this.1, decide_eq_true this.2]; rfl

theorem markT_len (l : List Int) (a n : Int) : (markT l a n).length = 32 := by simp [markT]
theorem markT_getD (l : List Int) (a n : Int) (j : Nat) (hj : j < 32) : (markT l a n).getD j 0 = markF l a n j := getD_map_range (markF l a n) 32 j hj
theorem mergeT_len (l m : List Int) : (mergeT l m).length = 32 := by simp [mergeT]
theorem mergeT_getD (l m : List Int) (j : Nat) (hj : j < 32) : (mergeT l m).getD j 0 = max (l.getD j 0) (m.getD j 0) := getD_map_range (fun i => max (l.getD i 0) (m.getD i 0)) 32 j hj

theorem right_markT {l : List Int} (h : rightT l = true) (a n : Int) : rightT (markT l a n) = true := by
  rw [right_iff] at h ⊢
  refine ⟨markT_len l a n, fun j hj => ?_⟩
  rw [markT_getD l a n j hj]
  have := h.2 j hj
  unfold markF
  split
  · split <;> omega
  · split <;> omega
theorem right_mergeT {l m : List Int} (h : rightT l = true) (k : rightT m = true) : rightT (mergeT l m) = true := by
  rw [right_iff] at h k ⊢
  refine ⟨mergeT_len l m, fun j hj => ?_⟩
  rw [mergeT_getD l m j hj]
  have := h.2 j hj
  have := k.2 j hj
  omega

theorem ext32 {l m : List Int} (h : l.length = 32) (k : m.length = 32) (he : ∀ j, j < 32 → l.getD j 0 = m.getD j 0) : l = m := eq_of_getD (by omega) fun j hj => he j (by omega)

/-- Marked either way about; marked twice. -/
theorem mark_turn {l : List Int} (h : rightT l = true) (a n b m : Int) : markT (markT l a n) b m = markT (markT l b m) a n := by
  rw [right_iff] at h
  refine ext32 (markT_len _ _ _) (markT_len _ _ _) fun j hj => ?_
  rw [markT_getD _ _ _ j hj, markT_getD _ _ _ j hj]
  have := h.2 j hj
  unfold markF
  rw [markT_getD l a n j hj, markT_getD l b m j hj]
  unfold markF
  (repeat' split) <;> omega
theorem mark_twice {l : List Int} (h : rightT l = true) (a n b m : Int) : markT (markT (markT l a n) b m) a n = markT (markT l a n) b m := by
  rw [right_iff] at h
  refine ext32 (markT_len _ _ _) (markT_len _ _ _) fun j hj => ?_
  rw [markT_getD _ _ _ j hj, markT_getD _ _ _ j hj]
  have := h.2 j hj
  unfold markF
  rw [markT_getD (markT l a n) b m j hj, markT_getD l a n j hj]
  unfold markF
  rw [markT_getD l a n j hj]
  unfold markF
  (repeat' split) <;> omega
end Go.Proofs.YtmgllljilnkkcaaDoor

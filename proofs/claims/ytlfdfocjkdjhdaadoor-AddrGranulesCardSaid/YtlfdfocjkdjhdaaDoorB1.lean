/- Layer addr: the document's answers, walked: contracts. -/
import Derived.Test.YtlfdfocjkdjhdaaDoorA6
namespace Go.Proofs.YtlfdfocjkdjhdaaDoor
open Go.RowKit

theorem refRight_any (a : Int) (w : World) : Calls Tryd.prog 17 #[.int .i64 a] w fun e w' => e = .returned (.bool (rightB a)) ∧ w = w' := by
  by_cases h : 0 ≤ a
  all_goals
    go_enter Tryd.func17, Tryd.ntmps17
    go_wp2
    go_ret
    refine ⟨?_, rfl⟩
    unfold rightB
  · simp [h]
  · have h' : decide (0 ≤ a) = false := by simpa using h
    rw [h']; rfl
theorem right_yes (a : Int) (w : World) (h0 : 0 ≤ a) (h1 : a < 131072) : Calls Tryd.prog 17 #[.int .i64 a] w fun e w' => e = .returned (.bool true) ∧ w = w' := by
  have := refRight_any a w
  rwa [show rightB a = true by simp [rightB]; omega] at this
theorem right_no (a : Int) (w : World) (h : ¬(0 ≤ a ∧ a < 131072)) : Calls Tryd.prog 17 #[.int .i64 a] w fun e w' => e = .returned (.bool false) ∧ w = w' := by
  have := refRight_any a w
  rwa [show rightB a = false by simp [rightB]; omega] at this

theorem refSplit_yes (a : Int) (w : World) (h0 : 0 ≤ a) (h1 : a < 131072) :
    Calls Tryd.prog 13 #[.int .i64 a] w fun r w' => r = .returned (.tuple #[.int .i64 (a / 4096), .int .i64 (a % 4096 / 128), .int .i64 (a % 128), .int .i64 0]) ∧ w = w' := by
  go_enter Tryd.func13, Tryd.ntmps13
  go_wp2_with (go_at_call 17; refine (right_yes _ _ h0 h1).mono ?_; rintro e w' ⟨rfl, rfl⟩)
  refine bodyPost_ret (results_tmp4 rfl _ _ _) rfl ⟨rfl, rfl⟩
theorem refSplit_no (a : Int) (w : World) (h : ¬(0 ≤ a ∧ a < 131072)) :
    Calls Tryd.prog 13 #[.int .i64 a] w fun r w' => r = .returned (.tuple #[.int .i64 0, .int .i64 0, .int .i64 0, .int .i64 10]) ∧ w = w' := by
  have H := Lib.hid h
  clear h
  go_enter Tryd.func13, Tryd.ntmps13
  go_wp2_with (go_at_call 17; refine (right_no _ _ H.out).mono ?_; rintro e w' ⟨rfl, rfl⟩)
  refine bodyPost_ret (results_tmp4 rfl _ _ _) rfl ⟨rfl, rfl⟩

theorem refJoin_yes (a b c : Int) (w : World) (h : oneB a b c = true) :
    Calls Tryd.prog 15 #[.int .i64 a, .int .i64 b, .int .i64 c] w fun r w' => r = .returned (.tuple #[.int .i64 ((a * 32 + b) * 128 + c), .int .i64 0]) ∧ w = w' := by
  simp only [oneB, decide_eq_true_eq] at h
  obtain ⟨h1, h2, h3, h4, h5, h6⟩ := h
  go_enter Tryd.func15, Tryd.ntmps15
  go_wp2
  go_ret2
  exact ⟨by simp; omega, rfl⟩
theorem refJoin_no (a b c : Int) (w : World) (h : oneB a b c = false) :
    Calls Tryd.prog 15 #[.int .i64 a, .int .i64 b, .int .i64 c] w fun r w' => r = .returned (.tuple #[.int .i64 0, .int .i64 10]) ∧ w = w' := by
  simp only [oneB, decide_eq_false_iff_not] at h
  have h' : a < 0 ∨ 0 ≤ a ∧ (32 ≤ a ∨ a < 32 ∧ (b < 0 ∨ 0 ≤ b ∧ (32 ≤ b ∨ b < 32 ∧ (c < 0 ∨ 0 ≤ c ∧ 128 ≤ c)))) := by omega
  clear h
  rcases h' with h1 | ⟨h1, h2 | ⟨h2, h3 | ⟨h3, h4 | ⟨h4, h5 | ⟨h5, h6⟩⟩⟩⟩⟩
  all_goals
    go_enter Tryd.func15, Tryd.ntmps15
    go_wp2
    go_ret2
    exact ⟨rfl, rfl⟩

theorem refSpan_yes (a n : Int) (w : World) (h0 : 0 ≤ a) (h1 : a < 131072) (h2 : 1 ≤ n) (h3 : n ≤ 131072 - a) :
    Calls Tryd.prog 29 #[.int .i64 a, .int .i64 n] w fun r w' => r = .returned (.tuple #[.int .i64 (a / 128), .int .i64 ((a + n - 1) / 128), .int .i64 0]) ∧ w = w' := by
  go_enter Tryd.func29, Tryd.ntmps29
  go_wp2_with (go_at_call 17; refine (right_yes _ _ h0 h1).mono ?_; rintro e w' ⟨rfl, rfl⟩)
  refine bodyPost_ret (results_tmp3 rfl _ _ _) rfl ⟨rfl, rfl⟩
theorem refSpan_no (a n : Int) (w : World) (h : ¬(0 ≤ a ∧ a < 131072 ∧ 1 ≤ n ∧ n ≤ 131072 - a)) :
    Calls Tryd.prog 29 #[.int .i64 a, .int .i64 n] w fun r w' => r = .returned (.tuple #[.int .i64 0, .int .i64 0, .int .i64 10]) ∧ w = w' := by
  by_cases hr : 0 ≤ a ∧ a < 131072
  · obtain ⟨h0, h1⟩ := hr
    have h' : n < 1 ∨ 1 ≤ n ∧ 131072 - a < n := by omega
    clear h
    rcases h' with h2 | ⟨h2, h3⟩
    all_goals
      go_enter Tryd.func29, Tryd.ntmps29
      go_wp2_with (go_at_call 17; refine (right_yes _ _ h0 h1).mono ?_; rintro e w' ⟨rfl, rfl⟩)
      refine bodyPost_ret (results_tmp3 rfl _ _ _) rfl ⟨rfl, rfl⟩
  · clear h
    have H := Lib.hid hr
    clear hr
    go_enter Tryd.func29, Tryd.ntmps29
    go_wp2_with (go_at_call 17; refine (right_no _ _ H.out).mono ?_; rintro e w' ⟨rfl, rfl⟩)
    refine bodyPost_ret (results_tmp3 rfl _ _ _) rfl ⟨rfl, rfl⟩

theorem refSize_yes (n : Int) (w : World) (h1 : 1 ≤ n) (h2 : n ≤ 131072) : Calls Tryd.prog 36 #[.int .i64 n] w fun r w' => r = .returned (.bool true) ∧ w = w' := by
  go_enter Tryd.func36, Tryd.ntmps36
  go_wp2
  go_ret
  exact ⟨rfl, rfl⟩
theorem refSize_no (n : Int) (w : World) (h : ¬(1 ≤ n ∧ n ≤ 131072)) : Calls Tryd.prog 36 #[.int .i64 n] w fun r w' => r = .returned (.bool false) ∧ w = w' := by
  have h' : n < 1 ∨ 1 ≤ n ∧ 131072 < n := by omega
  clear h
  rcases h' with h1 | ⟨h1, h2⟩
  all_goals
    go_enter Tryd.func36, Tryd.ntmps36
    go_wp2
    go_ret
    exact ⟨by first | rfl | (show Ending.returned (.bool (decide (n ≤ 131072))) = _; rw [decide_eq_false (by omega)]), rfl⟩
theorem refRound_yes (n : Int) (w : World) (h1 : 1 ≤ n) (h2 : n ≤ 131072) : Calls Tryd.prog 19 #[.int .i64 n] w fun r w' => r = .returned (.tuple #[.int .i64 ((n + 7) / 8 * 8), .int .i64 0]) ∧ w = w' := by
  go_enter Tryd.func19, Tryd.ntmps19
  go_wp2_with (go_at_call 36; refine (refSize_yes _ _ h1 h2).mono ?_; rintro e w' ⟨rfl, rfl⟩)
  go_ret2
  exact ⟨rfl, rfl⟩
theorem refRound_no (n : Int) (w : World) (h : ¬(1 ≤ n ∧ n ≤ 131072)) : Calls Tryd.prog 19 #[.int .i64 n] w fun r w' => r = .returned (.tuple #[.int .i64 0, .int .i64 11]) ∧ w = w' := by
  have H := Lib.hid h
  clear h
  go_enter Tryd.func19, Tryd.ntmps19
  go_wp2_with (go_at_call 36; refine (refSize_no _ _ H.out).mono ?_; rintro e w' ⟨rfl, rfl⟩)
  go_ret2
  exact ⟨rfl, rfl⟩
theorem refBlocks_yes (n : Int) (w : World) (h1 : 1 ≤ n) (h2 : n ≤ 131072) : Calls Tryd.prog 23 #[.int .i64 n] w fun r w' => r = .returned (.tuple #[.int .i64 ((n + 4095) / 4096), .int .i64 0]) ∧ w = w' := by
  go_enter Tryd.func23, Tryd.ntmps23
  go_wp2_with (go_at_call 36; refine (refSize_yes _ _ h1 h2).mono ?_; rintro e w' ⟨rfl, rfl⟩)
  go_ret2
  exact ⟨by simp; omega, rfl⟩
theorem refBlocks_no (n : Int) (w : World) (h : ¬(1 ≤ n ∧ n ≤ 131072)) : Calls Tryd.prog 23 #[.int .i64 n] w fun r w' => r = .returned (.tuple #[.int .i64 0, .int .i64 11]) ∧ w = w' := by
  have H := Lib.hid h
  clear h
  go_enter Tryd.func23, Tryd.ntmps23
  go_wp2_with (go_at_call 36; refine (refSize_no _ _ H.out).mono ?_; rintro e w' ⟨rfl, rfl⟩)
  go_ret2
  exact ⟨rfl, rfl⟩
theorem refClass_yes (n : Int) (w : World) (h1 : 1 ≤ n) (h2 : n ≤ 131072) : Calls Tryd.prog 21 #[.int .i64 n] w fun r w' => r = .returned (.tuple #[.int .i64 (classOf n), .int .i64 0]) ∧ w = w' := by
  have h' : n ≤ 128 ∧ Hid (classOf n = 1) ∨ 128 < n ∧ (n ≤ 2048 ∧ Hid (classOf n = 2) ∨ 2048 < n ∧ Hid (classOf n = 3)) := by
    simp only [classOf, Hid]; omega
  rcases h' with ⟨h3, HC⟩ | ⟨h3, ⟨h4, HC⟩ | ⟨h4, HC⟩⟩
  all_goals
    go_enter Tryd.func21, Tryd.ntmps21
    go_wp2_with (go_at_call 36; refine (refSize_yes _ _ h1 h2).mono ?_; rintro e w' ⟨rfl, rfl⟩)
    go_ret2
    exact ⟨by rw [HC.out]; rfl, rfl⟩
theorem refClass_no (n : Int) (w : World) (h : ¬(1 ≤ n ∧ n ≤ 131072)) : Calls Tryd.prog 21 #[.int .i64 n] w fun r w' => r = .returned (.tuple #[.int .i64 0, .int .i64 11]) ∧ w = w' := by
  have H := Lib.hid h
  clear h
  go_enter Tryd.func21, Tryd.ntmps21
  go_wp2_with (go_at_call 36; refine (refSize_no _ _ H.out).mono ?_; rintro e w' ⟨rfl, rfl⟩)
  go_ret2
  exact ⟨rfl, rfl⟩

theorem refAddr_yes (n : Int) (w : World) (h1 : 1 ≤ n) (h2 : n ≤ 16384) : Calls Tryd.prog 28 #[.int .i64 n] w fun r w' => r = .returned (.tuple #[.int .i64 ((n - 1) * 8), .int .i64 0]) ∧ w = w' := by
  go_enter Tryd.func28, Tryd.ntmps28
  go_wp2
  go_ret2
  exact ⟨by simp; omega, rfl⟩
theorem refAddr_no (n : Int) (w : World) (h : ¬(1 ≤ n ∧ n ≤ 16384)) : Calls Tryd.prog 28 #[.int .i64 n] w fun r w' => r = .returned (.tuple #[.int .i64 0, .int .i64 12]) ∧ w = w' := by
  have h' : n < 1 ∨ 1 ≤ n ∧ 16384 < n := by omega
  clear h
  rcases h' with h1 | ⟨h1, h2⟩
  all_goals
    go_enter Tryd.func28, Tryd.ntmps28
    go_wp2
    go_ret2
    exact ⟨rfl, rfl⟩
theorem refRef_yes (a : Int) (w : World) (h0 : 0 ≤ a) (h1 : a < 131072) (hm : a % 8 = 0) : Calls Tryd.prog 27 #[.int .i64 a] w fun r w' => r = .returned (.tuple #[.int .i64 (a / 8 + 1), .int .i64 0]) ∧ w = w' := by
  have hm2 : (a % 8 != 0) = false := by simp [hm]
  clear hm
  go_enter Tryd.func27, Tryd.ntmps27
  go_wp2_with (go_at_call 17; refine (right_yes _ _ h0 h1).mono ?_; rintro e w' ⟨rfl, rfl⟩)
  go_ret2
  exact ⟨rfl, rfl⟩
theorem refRef_no (a : Int) (w : World) (h : ¬(0 ≤ a ∧ a < 131072 ∧ a % 8 = 0)) : Calls Tryd.prog 27 #[.int .i64 a] w fun r w' => r = .returned (.tuple #[.int .i64 0, .int .i64 10]) ∧ w = w' := by
  by_cases hr : 0 ≤ a ∧ a < 131072
  · obtain ⟨h0, h1⟩ := hr
    have hm2 : (a % 8 != 0) = true := by simp; exact fun e => h ⟨h0, h1, e⟩
    clear h
    go_enter Tryd.func27, Tryd.ntmps27
    go_wp2_with (go_at_call 17; refine (right_yes _ _ h0 h1).mono ?_; rintro e w' ⟨rfl, rfl⟩)
    go_ret2
    exact ⟨rfl, rfl⟩
  · clear h
    have H := Lib.hid hr
    clear hr
    go_enter Tryd.func27, Tryd.ntmps27
    go_wp2_with (go_at_call 17; refine (right_no _ _ H.out).mono ?_; rintro e w' ⟨rfl, rfl⟩)
    go_ret2
    exact ⟨rfl, rfl⟩
end Go.Proofs.YtlfdfocjkdjhdaaDoor

/- Layer addr: references and spans. -/
import Derived.Test.YtlfdfocjkdjhdaaDoorA5
import Derived.StillTailTactics
namespace Go.Proofs.YtlfdfocjkdjhdaaDoor
open Go.RowKit
attribute [local go_sem ↓] Go.wp_at_zero Go.wp_at_succ

theorem addr_yes {E : Env} {w : World} (h : Glob E w) (n : Int) (h1 : 1 ≤ n) (h2 : n ≤ 16384) : Calls Tryd.prog 25 #[.int .i64 n] w fun r w' => r = .returned (.tuple #[.int .i64 ((n - 1) * 8), .int .i64 0]) ∧ w = w' := by
  have k0 : w.cell? ⟨2, 0, none⟩ = some (.iface 66 (.pointer (some E.aRef))) := h.cRef
  go_enter Tryd.func25, Tryd.ntmps25
  go_wp2_with (go_at_call 30; refine (unless_true _ _).mono ?_; rintro e w' ⟨rfl, rfl⟩)
  go_ret2
  exact ⟨rfl, rfl⟩
theorem addr_no {E : Env} {w : World} (h : Glob E w) (n : Int) (hn : ¬(1 ≤ n ∧ n ≤ 16384)) : Calls Tryd.prog 25 #[.int .i64 n] w fun r w' => r = .returned (.tuple #[.int .i64 0, .int .i64 12]) ∧ Below w.heap.size w w' := by
  have k0 : w.cell? ⟨2, 0, none⟩ = some (.iface 66 (.pointer (some E.aRef))) := h.cRef
  by_cases h1 : 1 ≤ n
  · have h2 : ¬ n ≤ 16384 := fun h2 => hn ⟨h1, h2⟩
    clear hn
    go_enter Tryd.func25, Tryd.ntmps25
    go_wp2_with (first | (go_at_call 30; refine (unless_false _ _).mono ?_; rintro e w' ⟨rfl, rfl⟩) | (go_at_call 31; refine (told_one h .ref _ _).mono ?_; rintro e w' ⟨rfl, rfl⟩))
    go_ret2
    exact ⟨rfl, (Below.refl _ _).alloc (Nat.le_refl _) _⟩
  · clear hn
    have h2 : n < 1 := by omega
    go_enter Tryd.func25, Tryd.ntmps25
    go_wp2_with (first | (go_at_call 30; refine (unless_false _ _).mono ?_; rintro e w' ⟨rfl, rfl⟩) | (go_at_call 31; refine (told_one h .ref _ _).mono ?_; rintro e w' ⟨rfl, rfl⟩))
    go_ret2
    exact ⟨rfl, (Below.refl _ _).alloc (Nat.le_refl _) _⟩

theorem told_at {E : Env} {w : World} (h : Glob E w) (l : List Er) (hl : l.length ≤ 1000) (b : Nat) (t : TypeId) (cs : Array Value) (cap : Nat) (hb : w.heap[b]? = some (.cells cs t (0, 0))) (hc : cs = (l.map (Er.val E)).toArray) (n : Nat) (hn : n = l.length) :
    Calls Tryd.prog 31 #[.slice (some ⟨b, 0, none⟩) n cap] w fun r w' => r = .returned (.int .i64 (toldE l)) ∧ w = w' := by
  subst hn hc
  refine told_any h l hl b cap fun i hi => ?_
  refine cells_cell hb ?_
  simp [List.getD_eq_getElem?_getD, List.getElem?_eq_getElem hi]

theorem keep1 {E : Env} {W : World} {g : Nat} {v : Value} (h : W.cell? ⟨g, 0, none⟩ = some v) (hg : g < 4) (hG : Glob E W) (o : Obj) :
    (W.alloc o).drew.cell? ⟨g, 0, none⟩ = some v ∧ Glob E (W.alloc o).drew ∧ Below W.heap.size W (W.alloc o).drew :=
  keepS ((Below.refl _ _).alloc (Nat.le_refl _) o).drew hg ⟨h, hG, Below.refl _ _⟩

/-- told at two errors that lie in a block of their own. -/
theorem told_pair {E : Env} {w : World} (h : Glob E w) (e f : Er) (t : TypeId) (c : Int) (hc : toldE [e, f] = c) :
    Calls Tryd.prog 31 #[.slice (some ⟨w.heap.size, 0, none⟩) 2 2] (w.alloc (.cells #[Er.val E e, Er.val E f] t)).drew fun r w' => r = .returned (.int .i64 c) ∧ (w.alloc (.cells #[Er.val E e, Er.val E f] t)).drew = w' :=
  hc ▸ told_at (h.below ((Below.refl _ _).alloc (Nat.le_refl _) _).drew) [e, f] (by simp) w.heap.size t _ _ (World.alloc_heap_new w _) rfl 2 rfl

set_option maxHeartbeats 1000000 in
theorem ref_yes {E : Env} {w : World} (h : Glob E w) (a : Int) (h0 : 0 ≤ a) (h1 : a < 131072) (hm : a % 8 = 0) : Calls Tryd.prog 24 #[.int .i64 a] w fun r w' => r = .returned (.tuple #[.int .i64 (a / 8 + 1), .int .i64 0]) ∧ Below w.heap.size w w' := by
  have hr : rightB a = true := by simp [rightB]; omega
  have k0 : w.cell? ⟨0, 0, none⟩ = some (.iface 66 (.pointer (some E.aAddr))) := h.cAddr
  have R1 := right_any a
  rw [hr] at R1
  have hR1 := Lib.hid R1
  clear R1 hr
  have hm2 : (Int.tmod a 8 == 0) = true := by rw [Int.tmod_eq_emod_of_nonneg h0]; simp [hm]
  clear hm
  go_enter Tryd.func24, Tryd.ntmps24
  go_wp2
  go_region_held3 (fun w' => w'.cell? ⟨0, 0, none⟩ = some (.iface 66 (.pointer (some E.aAddr))) ∧ Glob E w' ∧ Below w.heap.size w w') (first | assumption | exact keep0 k0 h | exact keep1 k0 (by decide) h _)
      (first | (go_at_call 16; refine (hR1.out _).mono ?_; rintro e w' ⟨rfl, rfl⟩) | (go_at_call_of 30 (Value.bool true); refine (unless_true _ _).mono ?_; rintro e w' ⟨rfl, rfl⟩) | (go_at_call_of 30 (Value.bool false); refine (unless_false _ _).mono ?_; rintro e w' ⟨rfl, rfl⟩) | (go_at_call 31; refine (told_pair h .ok .ok _ 0 rfl).mono ?_; rintro e w' ⟨rfl, rfl⟩))
  rename_i hH
  obtain ⟨-, hG, hB⟩ := hH
  clear h k0 hR1
  generalize (w.alloc _).drew = W0 at *
  go_wp2
  go_ret2
  exact ⟨rfl, hB⟩

set_option maxHeartbeats 1000000 in
theorem ref_no1 {E : Env} {w : World} (h : Glob E w) (a : Int) (h0 : 0 ≤ a) (h1 : a < 131072) (hm : a % 8 ≠ 0) : Calls Tryd.prog 24 #[.int .i64 a] w fun r w' => r = .returned (.tuple #[.int .i64 0, .int .i64 10]) ∧ Below w.heap.size w w' := by
  have hr : rightB a = true := by simp [rightB]; omega
  have k0 : w.cell? ⟨0, 0, none⟩ = some (.iface 66 (.pointer (some E.aAddr))) := h.cAddr
  have R1 := right_any a
  rw [hr] at R1
  have hR1 := Lib.hid R1
  clear R1 hr
  have hm2 : (Int.tmod a 8 == 0) = false := by rw [Int.tmod_eq_emod_of_nonneg h0]; simpa using hm
  clear hm
  go_enter Tryd.func24, Tryd.ntmps24
  go_wp2
  go_region_held3 (fun w' => w'.cell? ⟨0, 0, none⟩ = some (.iface 66 (.pointer (some E.aAddr))) ∧ Glob E w' ∧ Below w.heap.size w w') (first | assumption | exact keep0 k0 h | exact keep1 k0 (by decide) h _)
      (first | (go_at_call 16; refine (hR1.out _).mono ?_; rintro e w' ⟨rfl, rfl⟩) | (go_at_call_of 30 (Value.bool true); refine (unless_true _ _).mono ?_; rintro e w' ⟨rfl, rfl⟩) | (go_at_call_of 30 (Value.bool false); refine (unless_false _ _).mono ?_; rintro e w' ⟨rfl, rfl⟩) | (go_at_call 31; refine (told_pair h .ok .addr _ 10 rfl).mono ?_; rintro e w' ⟨rfl, rfl⟩))
  rename_i hH
  obtain ⟨-, hG, hB⟩ := hH
  clear h k0 hR1
  generalize (w.alloc _).drew = W0 at *
  go_wp2
  go_ret2
  exact ⟨rfl, hB⟩

set_option maxHeartbeats 1000000 in
theorem ref_no2 {E : Env} {w : World} (h : Glob E w) (a : Int) (hr : rightB a = false) (hm : (Int.tmod a 8 == 0) = true) : Calls Tryd.prog 24 #[.int .i64 a] w fun r w' => r = .returned (.tuple #[.int .i64 0, .int .i64 10]) ∧ Below w.heap.size w w' := by
  have k0 : w.cell? ⟨0, 0, none⟩ = some (.iface 66 (.pointer (some E.aAddr))) := h.cAddr
  have R1 := right_any a
  rw [hr] at R1
  have hR1 := Lib.hid R1
  clear R1 hr
  go_enter Tryd.func24, Tryd.ntmps24
  go_wp2
  go_region_held3 (fun w' => w'.cell? ⟨0, 0, none⟩ = some (.iface 66 (.pointer (some E.aAddr))) ∧ Glob E w' ∧ Below w.heap.size w w') (first | assumption | exact keep0 k0 h | exact keep1 k0 (by decide) h _)
      (first | (go_at_call 16; refine (hR1.out _).mono ?_; rintro e w' ⟨rfl, rfl⟩) | (go_at_call_of 30 (Value.bool true); refine (unless_true _ _).mono ?_; rintro e w' ⟨rfl, rfl⟩) | (go_at_call_of 30 (Value.bool false); refine (unless_false _ _).mono ?_; rintro e w' ⟨rfl, rfl⟩) | (go_at_call 31; refine (told_pair h .addr .ok _ 10 rfl).mono ?_; rintro e w' ⟨rfl, rfl⟩))
  rename_i hH
  obtain ⟨-, hG, hB⟩ := hH
  clear h k0 hR1
  generalize (w.alloc _).drew = W0 at *
  go_wp2
  go_ret2
  exact ⟨rfl, hB⟩

set_option maxHeartbeats 1000000 in
theorem ref_no3 {E : Env} {w : World} (h : Glob E w) (a : Int) (hr : rightB a = false) (hm : (Int.tmod a 8 == 0) = false) : Calls Tryd.prog 24 #[.int .i64 a] w fun r w' => r = .returned (.tuple #[.int .i64 0, .int .i64 10]) ∧ Below w.heap.size w w' := by
  have k0 : w.cell? ⟨0, 0, none⟩ = some (.iface 66 (.pointer (some E.aAddr))) := h.cAddr
  have R1 := right_any a
  rw [hr] at R1
  have hR1 := Lib.hid R1
  clear R1 hr
  go_enter Tryd.func24, Tryd.ntmps24
  go_wp2
  go_region_held3 (fun w' => w'.cell? ⟨0, 0, none⟩ = some (.iface 66 (.pointer (some E.aAddr))) ∧ Glob E w' ∧ Below w.heap.size w w') (first | assumption | exact keep0 k0 h | exact keep1 k0 (by decide) h _)
      (first | (go_at_call 16; refine (hR1.out _).mono ?_; rintro e w' ⟨rfl, rfl⟩) | (go_at_call_of 30 (Value.bool true); refine (unless_true _ _).mono ?_; rintro e w' ⟨rfl, rfl⟩) | (go_at_call_of 30 (Value.bool false); refine (unless_false _ _).mono ?_; rintro e w' ⟨rfl, rfl⟩) | (go_at_call 31; refine (told_pair h .addr .addr _ 10 rfl).mono ?_; rintro e w' ⟨rfl, rfl⟩))
  rename_i hH
  obtain ⟨-, hG, hB⟩ := hH
  clear h k0 hR1
  generalize (w.alloc _).drew = W0 at *
  go_wp2
  go_ret2
  exact ⟨rfl, hB⟩

theorem ref_no {E : Env} {w : World} (h : Glob E w) (a : Int) (hn : ¬(0 ≤ a ∧ a < 131072 ∧ a % 8 = 0)) : Calls Tryd.prog 24 #[.int .i64 a] w fun r w' => r = .returned (.tuple #[.int .i64 0, .int .i64 10]) ∧ Below w.heap.size w w' := by
  by_cases hr : 0 ≤ a ∧ a < 131072
  · exact ref_no1 h a hr.1 hr.2 fun e => hn ⟨hr.1, hr.2, e⟩
  · have hr' : rightB a = false := by simp [rightB]; omega
    cases hm : (Int.tmod a 8 == 0)
    · exact ref_no3 h a hr' hm
    · exact ref_no2 h a hr' hm
/-! spans -/
theorem Calls.flip {P : Program} {f : FuncId} {args : Array Value} {w : World} {v : Value} (h : Calls P f args w fun e w' => e = .returned v ∧ w = w') : Calls P f args w fun e w' => e = .returned v ∧ w' = w :=
  h.mono fun _ _ ⟨he, hw⟩ => ⟨he, hw.symm⟩
set_option maxHeartbeats 1000000 in
theorem span_yes {E : Env} {w : World} (h : Glob E w) (a n : Int) (hr : rightB a = true) (h0 : 0 ≤ a) (h1 : a < 131072) (h2 : 1 ≤ n) (h3 : n ≤ 131072 - a) : Calls Tryd.prog 26 #[.int .i64 a, .int .i64 n] w fun r w' => r = .returned (.tuple #[.int .i64 (a / 128), .int .i64 ((a + n - 1) / 128), .int .i64 0]) ∧ Below w.heap.size w w' := by
  have k0 : w.cell? ⟨0, 0, none⟩ = some (.iface 66 (.pointer (some E.aAddr))) := h.cAddr
  have R1 := right_any a
  rw [hr] at R1
  have hR1 := Lib.hid R1
  clear R1 hr
  have hw : IntKind.i64.wrap (131072 - a) = 131072 - a := IntWalk.i64_in _ (by omega)
  have hd1 : decide (1 ≤ n) = true := by simpa using h2
  have hd : decide (n ≤ 131072 - a) = true := by simpa using h3
  go_enter Tryd.func26, Tryd.ntmps26
  go_wp2
  refine wp_region_still_tail 14 (by kernel_rfl) (by kernel_rfl) ?_
  simp only [List.take_succ_cons, List.take_zero, List.drop_succ_cons, List.drop_zero]
  repeat (first | still_step | (refine wpStill_step (fun K hK => ?_); go_simp; apply Exists.intro; refine ⟨?_, hK _ ?_⟩; (first | (go_at_call 16; exact Calls.flip (hR1.out _)) | (go_at_call_of 30 (Value.bool true); exact Calls.flip (unless_true _ _)) | (go_at_call_of 30 (Value.bool false); exact Calls.flip (unless_false _ _))); clear hK K))
  refine wpStill_nil ?_
  change wpList _ _ _ _ _ w.drew
  have hB : Below w.heap.size w w.drew := (Below.refl _ w).drew
  have hG := h.below hB
  clear h k0 hR1
  generalize w.drew = W0 at *
  go_wp2_with (go_at_call 31; refine (told_two hG .ok .ok _ _).mono ?_; rintro e w' ⟨rfl, rfl⟩)
  refine bodyPost_ret (results_tmp3 rfl _ _ _) rfl ⟨rfl, hB.alloc hB.size _⟩

set_option maxHeartbeats 1000000 in
theorem span_no1 {E : Env} {w : World} (h : Glob E w) (a n : Int) (hr : rightB a = true) (h2 : ¬ 1 ≤ n) : Calls Tryd.prog 26 #[.int .i64 a, .int .i64 n] w fun r w' => r = .returned (.tuple #[.int .i64 0, .int .i64 0, .int .i64 10]) ∧ Below w.heap.size w w' := by
  have k0 : w.cell? ⟨0, 0, none⟩ = some (.iface 66 (.pointer (some E.aAddr))) := h.cAddr
  have R1 := right_any a
  rw [hr] at R1
  have hR1 := Lib.hid R1
  clear R1 hr
  have hd1 : decide (1 ≤ n) = false := by simpa using h2
  go_enter Tryd.func26, Tryd.ntmps26
  go_wp2
  refine wp_region_still_tail 14 (by kernel_rfl) (by kernel_rfl) ?_
  simp only [List.take_succ_cons, List.take_zero, List.drop_succ_cons, List.drop_zero]
  repeat (first | still_step | (refine wpStill_step (fun K hK => ?_); go_simp; apply Exists.intro; refine ⟨?_, hK _ ?_⟩; (first | (go_at_call 16; exact Calls.flip (hR1.out _)) | (go_at_call_of 30 (Value.bool true); exact Calls.flip (unless_true _ _)) | (go_at_call_of 30 (Value.bool false); exact Calls.flip (unless_false _ _))); clear hK K))
  refine wpStill_nil ?_
  change wpList _ _ _ _ _ w.drew
  have hB : Below w.heap.size w w.drew := (Below.refl _ w).drew
  have hG := h.below hB
  clear h k0 hR1
  generalize w.drew = W0 at *
  go_wp2_with (go_at_call 31; refine (told_two hG .ok .addr _ _).mono ?_; rintro e w' ⟨rfl, rfl⟩)
  refine bodyPost_ret (results_tmp3 rfl _ _ _) rfl ⟨rfl, hB.alloc hB.size _⟩

set_option maxHeartbeats 1000000 in
theorem span_no2 {E : Env} {w : World} (h : Glob E w) (a n : Int) (hr : rightB a = true) (h0 : 0 ≤ a) (h1 : a < 131072) (h2 : 1 ≤ n) (h3 : ¬ n ≤ 131072 - a) : Calls Tryd.prog 26 #[.int .i64 a, .int .i64 n] w fun r w' => r = .returned (.tuple #[.int .i64 0, .int .i64 0, .int .i64 10]) ∧ Below w.heap.size w w' := by
  have k0 : w.cell? ⟨0, 0, none⟩ = some (.iface 66 (.pointer (some E.aAddr))) := h.cAddr
  have R1 := right_any a
  rw [hr] at R1
  have hR1 := Lib.hid R1
  clear R1 hr
  have hw : IntKind.i64.wrap (131072 - a) = 131072 - a := IntWalk.i64_in _ (by omega)
  have hd1 : decide (1 ≤ n) = true := by simpa using h2
  have hd : decide (n ≤ 131072 - a) = false := by simpa using h3
  go_enter Tryd.func26, Tryd.ntmps26
  go_wp2
  refine wp_region_still_tail 14 (by kernel_rfl) (by kernel_rfl) ?_
  simp only [List.take_succ_cons, List.take_zero, List.drop_succ_cons, List.drop_zero]
  repeat (first | still_step | (refine wpStill_step (fun K hK => ?_); go_simp; apply Exists.intro; refine ⟨?_, hK _ ?_⟩; (first | (go_at_call 16; exact Calls.flip (hR1.out _)) | (go_at_call_of 30 (Value.bool true); exact Calls.flip (unless_true _ _)) | (go_at_call_of 30 (Value.bool false); exact Calls.flip (unless_false _ _))); clear hK K))
  refine wpStill_nil ?_
  change wpList _ _ _ _ _ w.drew
  have hB : Below w.heap.size w w.drew := (Below.refl _ w).drew
  have hG := h.below hB
  clear h k0 hR1
  generalize w.drew = W0 at *
  go_wp2_with (go_at_call 31; refine (told_two hG .ok .addr _ _).mono ?_; rintro e w' ⟨rfl, rfl⟩)
  refine bodyPost_ret (results_tmp3 rfl _ _ _) rfl ⟨rfl, hB.alloc hB.size _⟩

set_option maxHeartbeats 1000000 in
theorem span_no3 {E : Env} {w : World} (h : Glob E w) (a n : Int) (hr : rightB a = false) (h2 : ¬ 1 ≤ n) : Calls Tryd.prog 26 #[.int .i64 a, .int .i64 n] w fun r w' => r = .returned (.tuple #[.int .i64 0, .int .i64 0, .int .i64 10]) ∧ Below w.heap.size w w' := by
  have k0 : w.cell? ⟨0, 0, none⟩ = some (.iface 66 (.pointer (some E.aAddr))) := h.cAddr
  have R1 := right_any a
  rw [hr] at R1
  have hR1 := Lib.hid R1
  clear R1 hr
  have hd1 : decide (1 ≤ n) = false := by simpa using h2
  go_enter Tryd.func26, Tryd.ntmps26
  go_wp2
  refine wp_region_still_tail 14 (by kernel_rfl) (by kernel_rfl) ?_
  simp only [List.take_succ_cons, List.take_zero, List.drop_succ_cons, List.drop_zero]
  repeat (first | still_step | (refine wpStill_step (fun K hK => ?_); go_simp; apply Exists.intro; refine ⟨?_, hK _ ?_⟩; (first | (go_at_call 16; exact Calls.flip (hR1.out _)) | (go_at_call_of 30 (Value.bool true); exact Calls.flip (unless_true _ _)) | (go_at_call_of 30 (Value.bool false); exact Calls.flip (unless_false _ _))); clear hK K))
  refine wpStill_nil ?_
  change wpList _ _ _ _ _ w.drew
  have hB : Below w.heap.size w w.drew := (Below.refl _ w).drew
  have hG := h.below hB
  clear h k0 hR1
  generalize w.drew = W0 at *
  go_wp2_with (go_at_call 31; refine (told_two hG .addr .addr _ _).mono ?_; rintro e w' ⟨rfl, rfl⟩)
  refine bodyPost_ret (results_tmp3 rfl _ _ _) rfl ⟨rfl, hB.alloc hB.size _⟩

set_option maxHeartbeats 1000000 in
theorem span_no4 {E : Env} {w : World} (h : Glob E w) (a n : Int) (hr : rightB a = false) (h2 : 1 ≤ n) (h3 : n ≤ IntKind.i64.wrap (131072 - a)) : Calls Tryd.prog 26 #[.int .i64 a, .int .i64 n] w fun r w' => r = .returned (.tuple #[.int .i64 0, .int .i64 0, .int .i64 10]) ∧ Below w.heap.size w w' := by
  have k0 : w.cell? ⟨0, 0, none⟩ = some (.iface 66 (.pointer (some E.aAddr))) := h.cAddr
  have R1 := right_any a
  rw [hr] at R1
  have hR1 := Lib.hid R1
  clear R1 hr
  have hd1 : decide (1 ≤ n) = true := by simpa using h2
  have hd : decide (n ≤ IntKind.i64.wrap (131072 - a)) = true := by simpa using h3
  go_enter Tryd.func26, Tryd.ntmps26
  go_wp2
  refine wp_region_still_tail 14 (by kernel_rfl) (by kernel_rfl) ?_
  simp only [List.take_succ_cons, List.take_zero, List.drop_succ_cons, List.drop_zero]
  repeat (first | still_step | (refine wpStill_step (fun K hK => ?_); go_simp; apply Exists.intro; refine ⟨?_, hK _ ?_⟩; (first | (go_at_call 16; exact Calls.flip (hR1.out _)) | (go_at_call_of 30 (Value.bool true); exact Calls.flip (unless_true _ _)) | (go_at_call_of 30 (Value.bool false); exact Calls.flip (unless_false _ _))); clear hK K))
  refine wpStill_nil ?_
  change wpList _ _ _ _ _ w.drew
  have hB : Below w.heap.size w w.drew := (Below.refl _ w).drew
  have hG := h.below hB
  clear h k0 hR1
  generalize w.drew = W0 at *
  go_wp2_with (go_at_call 31; refine (told_two hG .addr .ok _ _).mono ?_; rintro e w' ⟨rfl, rfl⟩)
  refine bodyPost_ret (results_tmp3 rfl _ _ _) rfl ⟨rfl, hB.alloc hB.size _⟩

set_option maxHeartbeats 1000000 in
theorem span_no5 {E : Env} {w : World} (h : Glob E w) (a n : Int) (hr : rightB a = false) (h2 : 1 ≤ n) (h3 : ¬ n ≤ IntKind.i64.wrap (131072 - a)) : Calls Tryd.prog 26 #[.int .i64 a, .int .i64 n] w fun r w' => r = .returned (.tuple #[.int .i64 0, .int .i64 0, .int .i64 10]) ∧ Below w.heap.size w w' := by
  have k0 : w.cell? ⟨0, 0, none⟩ = some (.iface 66 (.pointer (some E.aAddr))) := h.cAddr
  have R1 := right_any a
  rw [hr] at R1
  have hR1 := Lib.hid R1
  clear R1 hr
  have hd1 : decide (1 ≤ n) = true := by simpa using h2
  have hd : decide (n ≤ IntKind.i64.wrap (131072 - a)) = false := by simpa using h3
  go_enter Tryd.func26, Tryd.ntmps26
  go_wp2
  refine wp_region_still_tail 14 (by kernel_rfl) (by kernel_rfl) ?_
  simp only [List.take_succ_cons, List.take_zero, List.drop_succ_cons, List.drop_zero]
  repeat (first | still_step | (refine wpStill_step (fun K hK => ?_); go_simp; apply Exists.intro; refine ⟨?_, hK _ ?_⟩; (first | (go_at_call 16; exact Calls.flip (hR1.out _)) | (go_at_call_of 30 (Value.bool true); exact Calls.flip (unless_true _ _)) | (go_at_call_of 30 (Value.bool false); exact Calls.flip (unless_false _ _))); clear hK K))
  refine wpStill_nil ?_
  change wpList _ _ _ _ _ w.drew
  have hB : Below w.heap.size w w.drew := (Below.refl _ w).drew
  have hG := h.below hB
  clear h k0 hR1
  generalize w.drew = W0 at *
  go_wp2_with (go_at_call 31; refine (told_two hG .addr .addr _ _).mono ?_; rintro e w' ⟨rfl, rfl⟩)
  refine bodyPost_ret (results_tmp3 rfl _ _ _) rfl ⟨rfl, hB.alloc hB.size _⟩

theorem span_no {E : Env} {w : World} (h : Glob E w) (a n : Int) (hn : ¬(0 ≤ a ∧ a < 131072 ∧ 1 ≤ n ∧ n ≤ 131072 - a)) : Calls Tryd.prog 26 #[.int .i64 a, .int .i64 n] w fun r w' => r = .returned (.tuple #[.int .i64 0, .int .i64 0, .int .i64 10]) ∧ Below w.heap.size w w' := by
  by_cases hr : 0 ≤ a ∧ a < 131072
  · have hr' : rightB a = true := by simp [rightB]; omega
    by_cases h2 : 1 ≤ n
    · exact span_no2 h a n hr' hr.1 hr.2 h2 fun h3 => hn ⟨hr.1, hr.2, h2, h3⟩
    · exact span_no1 h a n hr' h2
  · have hr' : rightB a = false := by simp [rightB]; omega
    by_cases h2 : 1 ≤ n
    · by_cases h3 : n ≤ IntKind.i64.wrap (131072 - a)
      · exact span_no4 h a n hr' h2 h3
      · exact span_no5 h a n hr' h2 h3
    · exact span_no3 h a n hr' h2
end Go.Proofs.YtlfdfocjkdjhdaaDoor

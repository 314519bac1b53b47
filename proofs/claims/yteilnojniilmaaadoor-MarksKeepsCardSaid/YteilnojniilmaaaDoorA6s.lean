/- Layer addr: spans. -/
import Derived.Test.YteilnojniilmaaaDoorA1
import Derived.Lib.Hide
import Derived.StillTailTactics
namespace Go.Proofs.YteilnojniilmaaaDoor
open Go.RowKit
attribute [local go_sem ↓] Go.wp_at_zero Go.wp_at_succ

theorem told_at {E : Env} {w : World} (h : Glob E w) (l : List Er) (hl : l.length ≤ 1000) (b : Nat) (t : TypeId) (cs : Array Value) (cap : Nat) (hb : w.heap[b]? = some (.cells cs t (0, 0))) (hc : cs = (l.map (Er.val E)).toArray) (n : Nat) (hn : n = l.length) :
    Calls Tryd.prog 35 #[.slice (some ⟨b, 0, none⟩) n cap] w fun r w' => r = .returned (.int .i64 (toldE l)) ∧ w = w' := by
  subst hn hc
  refine told_any h l hl b cap fun i hi => ?_
  refine cells_cell hb ?_
  simp [List.getD_eq_getElem?_getD, List.getElem?_eq_getElem hi]

theorem keep1 {E : Env} {W : World} {g : Nat} {v : Value} (h : W.cell? ⟨g, 0, none⟩ = some v) (hg : g < 6) (hG : Glob E W) (o : Obj) :
    (W.alloc o).drew.cell? ⟨g, 0, none⟩ = some v ∧ Glob E (W.alloc o).drew ∧ Below W.heap.size W (W.alloc o).drew :=
  keepS ((Below.refl _ _).alloc (Nat.le_refl _) o).drew hg ⟨h, hG, Below.refl _ _⟩

/-- told at two errors that lie in a block of their own. -/
theorem told_pair {E : Env} {w : World} (h : Glob E w) (e f : Er) (t : TypeId) (c : Int) (hc : toldE [e, f] = c) :
    Calls Tryd.prog 35 #[.slice (some ⟨w.heap.size, 0, none⟩) 2 2] (w.alloc (.cells #[Er.val E e, Er.val E f] t)).drew fun r w' => r = .returned (.int .i64 c) ∧ (w.alloc (.cells #[Er.val E e, Er.val E f] t)).drew = w' :=
  hc ▸ told_at (h.below ((Below.refl _ _).alloc (Nat.le_refl _) _).drew) [e, f] (by simp) w.heap.size t _ _ (World.alloc_heap_new w _) rfl 2 rfl


/-! spans -/
theorem Calls.flip {P : Program} {f : FuncId} {args : Array Value} {w : World} {v : Value} (h : Calls P f args w fun e w' => e = .returned v ∧ w = w') : Calls P f args w fun e w' => e = .returned v ∧ w' = w :=
  h.mono fun _ _ ⟨he, hw⟩ => ⟨he, hw.symm⟩
set_option maxHeartbeats 1000000 in
set_option maxRecDepth 20000 in
theorem span_yes {E : Env} {w : World} (h : Glob E w) (a n : Int) (hr : rightB a = true) (h0 : 0 ≤ a) (h1 : a < 131072) (h2 : 1 ≤ n) (h3 : n ≤ 131072 - a) : Calls Tryd.prog 17 #[.int .i64 a, .int .i64 n] w fun r w' => r = .returned (.tuple #[.int .i64 (a / 128), .int .i64 ((a + n - 1) / 128), .int .i64 0]) ∧ Below w.heap.size w w' := by
  have k0 : w.cell? ⟨1, 0, none⟩ = some (.iface 90 (.pointer (some E.aAddr))) := h.cAddr
  have R1 := right_any a
  rw [hr] at R1
  have hR1 := Lib.hid R1
  clear R1 hr
  have hw : IntKind.i64.wrap (131072 - a) = 131072 - a := IntWalk.i64_in _ (by omega)
  have hd1 : decide (1 ≤ n) = true := by simpa using h2
  have hd : decide (n ≤ 131072 - a) = true := by simpa using h3
  go_enter Tryd.func17, Tryd.ntmps17
  go_wp2
  refine wp_region_still_tail 14 (by kernel_rfl) (by kernel_rfl) ?_
  simp only [List.take_succ_cons, List.take_zero, List.drop_succ_cons, List.drop_zero]
  repeat (first | still_step | (refine wpStill_step (fun K hK => ?_); go_simp; apply Exists.intro; refine ⟨?_, hK _ ?_⟩; (first | (go_at_call 37; exact Calls.flip (hR1.out _)) | (go_at_call_of 36 (Value.bool true); exact Calls.flip (unless_true _ _)) | (go_at_call_of 36 (Value.bool false); exact Calls.flip (unless_false _ _))); clear hK K))
  refine wpStill_nil ?_
  change wpList _ _ _ _ _ w.drew
  have hB : Below w.heap.size w w.drew := (Below.refl _ w).drew
  have hG := h.below hB
  clear h k0 hR1
  generalize w.drew = W0 at *
  go_wp2_with (go_at_call 35; refine (told_two hG .ok .ok _ _).mono ?_; rintro e w' ⟨rfl, rfl⟩)
  refine bodyPost_ret (results_tmp3 rfl _ _ _) rfl ⟨rfl, hB.alloc hB.size _⟩

set_option maxHeartbeats 1000000 in
set_option maxRecDepth 20000 in
theorem span_no1 {E : Env} {w : World} (h : Glob E w) (a n : Int) (hr : rightB a = true) (h2 : ¬ 1 ≤ n) : Calls Tryd.prog 17 #[.int .i64 a, .int .i64 n] w fun r w' => r = .returned (.tuple #[.int .i64 0, .int .i64 0, .int .i64 10]) ∧ Below w.heap.size w w' := by
  have k0 : w.cell? ⟨1, 0, none⟩ = some (.iface 90 (.pointer (some E.aAddr))) := h.cAddr
  have R1 := right_any a
  rw [hr] at R1
  have hR1 := Lib.hid R1
  clear R1 hr
  have hd1 : decide (1 ≤ n) = false := by simpa using h2
  go_enter Tryd.func17, Tryd.ntmps17
  go_wp2
  refine wp_region_still_tail 14 (by kernel_rfl) (by kernel_rfl) ?_
  simp only [List.take_succ_cons, List.take_zero, List.drop_succ_cons, List.drop_zero]
  repeat (first | still_step | (refine wpStill_step (fun K hK => ?_); go_simp; apply Exists.intro; refine ⟨?_, hK _ ?_⟩; (first | (go_at_call 37; exact Calls.flip (hR1.out _)) | (go_at_call_of 36 (Value.bool true); exact Calls.flip (unless_true _ _)) | (go_at_call_of 36 (Value.bool false); exact Calls.flip (unless_false _ _))); clear hK K))
  refine wpStill_nil ?_
  change wpList _ _ _ _ _ w.drew
  have hB : Below w.heap.size w w.drew := (Below.refl _ w).drew
  have hG := h.below hB
  clear h k0 hR1
  generalize w.drew = W0 at *
  go_wp2_with (go_at_call 35; refine (told_two hG .ok .addr _ _).mono ?_; rintro e w' ⟨rfl, rfl⟩)
  refine bodyPost_ret (results_tmp3 rfl _ _ _) rfl ⟨rfl, hB.alloc hB.size _⟩

set_option maxHeartbeats 1000000 in
set_option maxRecDepth 20000 in
theorem span_no2 {E : Env} {w : World} (h : Glob E w) (a n : Int) (hr : rightB a = true) (h0 : 0 ≤ a) (h1 : a < 131072) (h2 : 1 ≤ n) (h3 : ¬ n ≤ 131072 - a) : Calls Tryd.prog 17 #[.int .i64 a, .int .i64 n] w fun r w' => r = .returned (.tuple #[.int .i64 0, .int .i64 0, .int .i64 10]) ∧ Below w.heap.size w w' := by
  have k0 : w.cell? ⟨1, 0, none⟩ = some (.iface 90 (.pointer (some E.aAddr))) := h.cAddr
  have R1 := right_any a
  rw [hr] at R1
  have hR1 := Lib.hid R1
  clear R1 hr
  have hw : IntKind.i64.wrap (131072 - a) = 131072 - a := IntWalk.i64_in _ (by omega)
  have hd1 : decide (1 ≤ n) = true := by simpa using h2
  have hd : decide (n ≤ 131072 - a) = false := by simpa using h3
  go_enter Tryd.func17, Tryd.ntmps17
  go_wp2
  refine wp_region_still_tail 14 (by kernel_rfl) (by kernel_rfl) ?_
  simp only [List.take_succ_cons, List.take_zero, List.drop_succ_cons, List.drop_zero]
  repeat (first | still_step | (refine wpStill_step (fun K hK => ?_); go_simp; apply Exists.intro; refine ⟨?_, hK _ ?_⟩; (first | (go_at_call 37; exact Calls.flip (hR1.out _)) | (go_at_call_of 36 (Value.bool true); exact Calls.flip (unless_true _ _)) | (go_at_call_of 36 (Value.bool false); exact Calls.flip (unless_false _ _))); clear hK K))
  refine wpStill_nil ?_
  change wpList _ _ _ _ _ w.drew
  have hB : Below w.heap.size w w.drew := (Below.refl _ w).drew
  have hG := h.below hB
  clear h k0 hR1
  generalize w.drew = W0 at *
  go_wp2_with (go_at_call 35; refine (told_two hG .ok .addr _ _).mono ?_; rintro e w' ⟨rfl, rfl⟩)
  refine bodyPost_ret (results_tmp3 rfl _ _ _) rfl ⟨rfl, hB.alloc hB.size _⟩

set_option maxHeartbeats 1000000 in
set_option maxRecDepth 20000 in
theorem span_no3 {E : Env} {w : World} (h : Glob E w) (a n : Int) (hr : rightB a = false) (h2 : ¬ 1 ≤ n) : Calls Tryd.prog 17 #[.int .i64 a, .int .i64 n] w fun r w' => r = .returned (.tuple #[.int .i64 0, .int .i64 0, .int .i64 10]) ∧ Below w.heap.size w w' := by
  have k0 : w.cell? ⟨1, 0, none⟩ = some (.iface 90 (.pointer (some E.aAddr))) := h.cAddr
  have R1 := right_any a
  rw [hr] at R1
  have hR1 := Lib.hid R1
  clear R1 hr
  have hd1 : decide (1 ≤ n) = false := by simpa using h2
  go_enter Tryd.func17, Tryd.ntmps17
  go_wp2
  refine wp_region_still_tail 14 (by kernel_rfl) (by kernel_rfl) ?_
  simp only [List.take_succ_cons, List.take_zero, List.drop_succ_cons, List.drop_zero]
  repeat (first | still_step | (refine wpStill_step (fun K hK => ?_); go_simp; apply Exists.intro; refine ⟨?_, hK _ ?_⟩; (first | (go_at_call 37; exact Calls.flip (hR1.out _)) | (go_at_call_of 36 (Value.bool true); exact Calls.flip (unless_true _ _)) | (go_at_call_of 36 (Value.bool false); exact Calls.flip (unless_false _ _))); clear hK K))
  refine wpStill_nil ?_
  change wpList _ _ _ _ _ w.drew
  have hB : Below w.heap.size w w.drew := (Below.refl _ w).drew
  have hG := h.below hB
  clear h k0 hR1
  generalize w.drew = W0 at *
  go_wp2_with (go_at_call 35; refine (told_two hG .addr .addr _ _).mono ?_; rintro e w' ⟨rfl, rfl⟩)
  refine bodyPost_ret (results_tmp3 rfl _ _ _) rfl ⟨rfl, hB.alloc hB.size _⟩

set_option maxHeartbeats 1000000 in
set_option maxRecDepth 20000 in
theorem span_no4 {E : Env} {w : World} (h : Glob E w) (a n : Int) (hr : rightB a = false) (h2 : 1 ≤ n) (h3 : n ≤ IntKind.i64.wrap (131072 - a)) : Calls Tryd.prog 17 #[.int .i64 a, .int .i64 n] w fun r w' => r = .returned (.tuple #[.int .i64 0, .int .i64 0, .int .i64 10]) ∧ Below w.heap.size w w' := by
  have k0 : w.cell? ⟨1, 0, none⟩ = some (.iface 90 (.pointer (some E.aAddr))) := h.cAddr
  have R1 := right_any a
  rw [hr] at R1
  have hR1 := Lib.hid R1
  clear R1 hr
  have hd1 : decide (1 ≤ n) = true := by simpa using h2
  have hd : decide (n ≤ IntKind.i64.wrap (131072 - a)) = true := by simpa using h3
  go_enter Tryd.func17, Tryd.ntmps17
  go_wp2
  refine wp_region_still_tail 14 (by kernel_rfl) (by kernel_rfl) ?_
  simp only [List.take_succ_cons, List.take_zero, List.drop_succ_cons, List.drop_zero]
  repeat (first | still_step | (refine wpStill_step (fun K hK => ?_); go_simp; apply Exists.intro; refine ⟨?_, hK _ ?_⟩; (first | (go_at_call 37; exact Calls.flip (hR1.out _)) | (go_at_call_of 36 (Value.bool true); exact Calls.flip (unless_true _ _)) | (go_at_call_of 36 (Value.bool false); exact Calls.flip (unless_false _ _))); clear hK K))
  refine wpStill_nil ?_
  change wpList _ _ _ _ _ w.drew
  have hB : Below w.heap.size w w.drew := (Below.refl _ w).drew
  have hG := h.below hB
  clear h k0 hR1
  generalize w.drew = W0 at *
  go_wp2_with (go_at_call 35; refine (told_two hG .addr .ok _ _).mono ?_; rintro e w' ⟨rfl, rfl⟩)
  refine bodyPost_ret (results_tmp3 rfl _ _ _) rfl ⟨rfl, hB.alloc hB.size _⟩

set_option maxHeartbeats 1000000 in
set_option maxRecDepth 20000 in
theorem span_no5 {E : Env} {w : World} (h : Glob E w) (a n : Int) (hr : rightB a = false) (h2 : 1 ≤ n) (h3 : ¬ n ≤ IntKind.i64.wrap (131072 - a)) : Calls Tryd.prog 17 #[.int .i64 a, .int .i64 n] w fun r w' => r = .returned (.tuple #[.int .i64 0, .int .i64 0, .int .i64 10]) ∧ Below w.heap.size w w' := by
  have k0 : w.cell? ⟨1, 0, none⟩ = some (.iface 90 (.pointer (some E.aAddr))) := h.cAddr
  have R1 := right_any a
  rw [hr] at R1
  have hR1 := Lib.hid R1
  clear R1 hr
  have hd1 : decide (1 ≤ n) = true := by simpa using h2
  have hd : decide (n ≤ IntKind.i64.wrap (131072 - a)) = false := by simpa using h3
  go_enter Tryd.func17, Tryd.ntmps17
  go_wp2
  refine wp_region_still_tail 14 (by kernel_rfl) (by kernel_rfl) ?_
  simp only [List.take_succ_cons, List.take_zero, List.drop_succ_cons, List.drop_zero]
  repeat (first | still_step | (refine wpStill_step (fun K hK => ?_); go_simp; apply Exists.intro; refine ⟨?_, hK _ ?_⟩; (first | (go_at_call 37; exact Calls.flip (hR1.out _)) | (go_at_call_of 36 (Value.bool true); exact Calls.flip (unless_true _ _)) | (go_at_call_of 36 (Value.bool false); exact Calls.flip (unless_false _ _))); clear hK K))
  refine wpStill_nil ?_
  change wpList _ _ _ _ _ w.drew
  have hB : Below w.heap.size w w.drew := (Below.refl _ w).drew
  have hG := h.below hB
  clear h k0 hR1
  generalize w.drew = W0 at *
  go_wp2_with (go_at_call 35; refine (told_two hG .addr .addr _ _).mono ?_; rintro e w' ⟨rfl, rfl⟩)
  refine bodyPost_ret (results_tmp3 rfl _ _ _) rfl ⟨rfl, hB.alloc hB.size _⟩

theorem span_no {E : Env} {w : World} (h : Glob E w) (a n : Int) (hn : ¬(0 ≤ a ∧ a < 131072 ∧ 1 ≤ n ∧ n ≤ 131072 - a)) : Calls Tryd.prog 17 #[.int .i64 a, .int .i64 n] w fun r w' => r = .returned (.tuple #[.int .i64 0, .int .i64 0, .int .i64 10]) ∧ Below w.heap.size w w' := by
  by_cases hr : 0 ≤ a ∧ a < 131072
  · have hr' : rightB a = true := by simp [rightB]; omega
    by_cases h2 : 1 ≤ n
    · exact span_no2 h a n hr' hr.1 hr.2 h2 fun h3 => hn ⟨hr.1, hr.2, h2, h3⟩
    · exact span_no1 h a n hr' h2
  · have hr' : rightB a = false := by simp [rightB]; omega
    by_cases h2 : 1 ≤ n
    · by_cases h3 : n ≤ IntKind.i64.wrap (131072 - a)
      · exact span_no4 h a n hr' h2 h3
      · exact span_no5 h a n hr' h2 h3
    · exact span_no3 h a n hr' h2
end Go.Proofs.YteilnojniilmaaaDoor

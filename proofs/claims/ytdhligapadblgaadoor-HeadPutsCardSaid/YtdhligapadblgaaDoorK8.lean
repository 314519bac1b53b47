/- Layer head: the document's answer: Right, Turn, even; the first twenty bytes. -/
import Derived.Test.YtdhligapadblgaaDoorK7
import Derived.Test.YtdhligapadblgaaDoorMx
namespace Go.Proofs.YtdhligapadblgaaDoor
open Go.RowKit
attribute [local go_sem ↓] Go.wp_at_zero Go.wp_at_succ
attribute [local go_sem ↓] run_max_int run_min_int

set_option maxHeartbeats 1000000 in
set_option maxRecDepth 20000 in
theorem rightRefH {w : World} (k l c e : Int) : Calls Tryd.prog 16 #[.agg #[.int .i64 k, .int .i64 l, .int .i64 c, .int .i64 e]] w fun r w' => r = .returned (.bool (rightM k l c e)) ∧ Below w.heap.size w w' := by
  obtain ⟨w1, hw1, a0, -, a1⟩ := allocs1 w (.cells #[.int .i64 k, .int .i64 l, .int .i64 c, .int .i64 e] 23)
  have c0 := cells_cell (i := 0) a1 (v := .int .i64 k) rfl
  have c1 := cells_cell (i := 1) a1 (v := .int .i64 l) rfl
  have c2 := cells_cell (i := 2) a1 (v := .int .i64 c) rfl
  have c3 := cells_cell (i := 3) a1 (v := .int .i64 e) rfl
  clear a1
  have hrm : rightM k l c e = (decide (1 ≤ k) && (decide (k ≤ 60) && (decide (0 ≤ l) && (decide (l ≤ 40000) && (decide (1 ≤ c) && (decide (c ≤ 3) && (decide (0 ≤ e) && decide (e ≤ 255)))))))) := by
    unfold rightM hasP
    cases decide (1 ≤ k) <;> cases decide (k ≤ 60) <;> cases decide (0 ≤ l) <;> cases decide (l ≤ 40000) <;> cases decide (1 ≤ c) <;> cases decide (c ≤ 3) <;> cases decide (0 ≤ e) <;> cases decide (e ≤ 255) <;> rfl
  rw [hrm]
  clear hrm
  cases g0 : decide (1 ≤ k) with
  | false => go_enter Tryd.func16, Tryd.ntmps16; go_wp2; go_ret; exact ⟨rfl, a0⟩
  | true =>
  cases g1 : decide (k ≤ 60) with
  | false => go_enter Tryd.func16, Tryd.ntmps16; go_wp2; go_ret; exact ⟨rfl, a0⟩
  | true =>
  cases g2 : decide (0 ≤ l) with
  | false => go_enter Tryd.func16, Tryd.ntmps16; go_wp2; go_ret; exact ⟨rfl, a0⟩
  | true =>
  cases g3 : decide (l ≤ 40000) with
  | false => go_enter Tryd.func16, Tryd.ntmps16; go_wp2; go_ret; exact ⟨rfl, a0⟩
  | true =>
  cases g4 : decide (1 ≤ c) with
  | false => go_enter Tryd.func16, Tryd.ntmps16; go_wp2; go_ret; exact ⟨rfl, a0⟩
  | true =>
  cases g5 : decide (c ≤ 3) with
  | false => go_enter Tryd.func16, Tryd.ntmps16; go_wp2; go_ret; exact ⟨rfl, a0⟩
  | true =>
  cases g6 : decide (0 ≤ e) with
  | false => go_enter Tryd.func16, Tryd.ntmps16; go_wp2; go_ret; exact ⟨rfl, a0⟩
  | true =>
  cases g7 : decide (e ≤ 255) with
  | false => go_enter Tryd.func16, Tryd.ntmps16; go_wp2; go_ret; exact ⟨rfl, a0⟩
  | true => go_enter Tryd.func16, Tryd.ntmps16; go_wp2; go_ret; exact ⟨rfl, a0⟩

theorem turnRefH (w : World) (e : Int) : Calls Tryd.prog 18 #[.int .i64 e] w fun r w' => r = .returned (.int .i64 (turnI e)) ∧ w' = w := by
  by_cases h0 : 0 ≤ e
  · by_cases h1 : e < 255
    · have ht : turnI e = e + 1 := by
        unfold turnI
        have : hasP 0 255 e = true := by unfold hasP; rw [decide_eq_true h0, decide_eq_true (show e ≤ 255 by omega)]; rfl
        rw [this]
        show (e + 1) % 256 = e + 1
        omega
      rw [ht]
      have g0 : decide (0 ≤ e) = true := decide_eq_true h0
      have g1 : decide (e < 255) = true := decide_eq_true h1
      have iw : IntKind.i64.wrap (e + 1) = e + 1 := IntWalk.i64_in _ (by omega)
      clear ht h0 h1
      go_enter Tryd.func18, Tryd.ntmps18
      go_wp2
      go_ret
      exact ⟨rfl, rfl⟩
    · have ht : turnI e = 0 := by
        unfold turnI
        by_cases h2 : e = 255
        · subst h2; decide
        · have : hasP 0 255 e = false := by unfold hasP; rw [Bool.and_eq_false_iff, decide_eq_false_iff_not, decide_eq_false_iff_not]; omega
          rw [this]; rfl
      rw [ht]
      have g0 : decide (0 ≤ e) = true := decide_eq_true h0
      have g1 : decide (e < 255) = false := decide_eq_false h1
      clear ht h0 h1
      go_enter Tryd.func18, Tryd.ntmps18
      go_wp2
      go_ret
      exact ⟨rfl, rfl⟩
  · have ht : turnI e = 0 := by
      unfold turnI
      have : hasP 0 255 e = false := by unfold hasP; rw [Bool.and_eq_false_iff, decide_eq_false_iff_not, decide_eq_false_iff_not]; omega
      rw [this]; rfl
    rw [ht]
    have g0 : decide (0 ≤ e) = false := decide_eq_false h0
    clear ht h0
    go_enter Tryd.func18, Tryd.ntmps18
    go_wp2
    go_ret
    exact ⟨rfl, rfl⟩

/-- At most twenty bytes. -/
def cutS (s : ByteArray) : ByteArray := s.extract 0 (min s.size 20)
theorem cut_anyH (w : World) (s : ByteArray) : Calls Tryd.prog 13 #[.string s] w fun r w' => r = .returned (.string (cutS s)) ∧ w' = w := by
  unfold cutS
  by_cases h : s.size ≤ 20
  · have e1 : min (s.size : Int) 20 = (s.size : Int) := by omega
    have e2 : min s.size 20 = s.size := by omega
    rw [e2]
    clear e2
    go_enter Tryd.func13, Tryd.ntmps13
    go_wp2
    go_ret
    refine ⟨?_, rfl⟩
    show Ending.returned (.string s) = _
    rw [show s.extract 0 s.size = s by simp]
  · have e1 : min (s.size : Int) 20 = 20 := by omega
    have e2 : min s.size 20 = 20 := by omega
    rw [e2]
    have e3 : (20 : Int) ≤ (s.size : Int) := by omega
    have e4 : 20 ≤ s.size := by omega
    clear e2
    go_enter Tryd.func13, Tryd.ntmps13
    go_wp2
    go_ret
    exact ⟨rfl, rfl⟩

/-- How many of some numbers have a digit; the number of those digits that an odd number of them has. -/
def digits (L : List Nat) (d : Nat) : Nat := (L.map fun x => x / d % 2).sum
def evenN (L : List Nat) : Nat := ((List.range 8).map fun j => digits L (2 ^ j) % 2 * 2 ^ j).sum
theorem xorAll_lt {L : List Nat} (h : ∀ x ∈ L, x < 256) : xorAll L < 256 := by
  induction L with
  | nil => decide
  | cons a L ih => exact xor_lt8 (h a List.mem_cons_self) (ih fun x hx => h x (List.mem_cons_of_mem _ hx))
theorem digit_xor (L : List Nat) (j : Nat) : digits L (2 ^ j) % 2 = xorAll L / 2 ^ j % 2 := by
  induction L with
  | nil => simp [digits, xorAll]
  | cons a L ih =>
    have h1 : digits (a :: L) (2 ^ j) = a / 2 ^ j % 2 + digits L (2 ^ j) := by simp [digits]
    have h2 : (a ^^^ xorAll L).testBit j = (a.testBit j != (xorAll L).testBit j) := by rw [Nat.testBit_xor]
    rw [Nat.testBit_eq_decide_div_mod_eq, Nat.testBit_eq_decide_div_mod_eq, Nat.testBit_eq_decide_div_mod_eq] at h2
    rw [h1]
    show _ = (a ^^^ xorAll L) / 2 ^ j % 2
    generalize (a ^^^ xorAll L) / 2 ^ j = p at *
    generalize a / 2 ^ j = q at *
    generalize xorAll L / 2 ^ j = r at *
    have hp : p % 2 = 0 ∨ p % 2 = 1 := by omega
    have hq : q % 2 = 0 ∨ q % 2 = 1 := by omega
    have hr : r % 2 = 0 ∨ r % 2 = 1 := by omega
    rcases hp with hp | hp <;> rcases hq with hq | hq <;> rcases hr with hr | hr <;> simp [hp, hq, hr] at h2 ⊢ <;> omega
theorem evenN_xor {L : List Nat} (h : ∀ x ∈ L, x < 256) : evenN L = xorAll L := by
  unfold evenN
  simp only [digit_xor]
  have := xorAll_lt h
  generalize xorAll L = x at *
  simp [List.range, List.range.loop]
  omega
end Go.Proofs.YtdhligapadblgaaDoor

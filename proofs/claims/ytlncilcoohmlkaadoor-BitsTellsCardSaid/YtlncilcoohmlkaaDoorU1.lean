/- Layer bits: words in a slice; is a place on. -/
import Derived.Test.YtlncilcoohmlkaaDoorGv
import Derived.Test.YtlncilcoohmlkaaDoorMx
import Derived.Laws.Shifts
import Derived.Laws.ShiftsVarLaws
import Derived.Laws.Bits
import Derived.Laws.BitsLemmas
import Derived.Deep.DrawnRows
import Derived.WalkSpells
import Derived.WalkLawsBesides
import Derived.BigQuiet
import Derived.Deep.QuietTactic
namespace Go.Proofs.YtlncilcoohmlkaaDoor
open Go Go.RowKit
attribute [local go_sem ↓] Go.wp_at_zero Go.wp_at_succ

/-- The slice v holds the words l. -/
inductive WordsV (w : World) : Value → List Nat → Prop where
  | some (b off cap : Nat) (l : List Nat) (hl : l.length ≤ cap) (hm : cap ≤ 9223372036854775807) (hw : ∀ i, l.getD i 0 < 4294967296) (hc : ∀ i, i < l.length → w.cell? ⟨b, off + i, none⟩ = some (.int .u32 ((l.getD i 0 : Nat) : Int))) : WordsV w (.slice (some ⟨b, off, none⟩) l.length cap) l
  | empty (a : Option Addr) (cap : Nat) : WordsV w (.slice a 0 cap) []
theorem WordsV.below {w w' : World} {v : Value} {l : List Nat} (h : WordsV w v l) (hb : Below w.heap.size w w') : WordsV w' v l := by
  cases h with
  | some b off cap l hl hm hw hc => exact .some b off cap l hl hm hw fun i hi => (hb.cell (p := ⟨b, off + i, none⟩) (cell_lt (hc i hi))).trans (hc i hi)
  | empty a cap => exact .empty a cap
theorem WordsV.slice {w : World} {v : Value} {l : List Nat} (h : WordsV w v l) : ∃ a cap, v = .slice a l.length cap := by
  cases h with
  | some b off cap l hl hm hw hc => exact ⟨_, _, rfl⟩
  | empty a cap => exact ⟨_, _, rfl⟩
theorem WordsV.lt {w : World} {v : Value} {l : List Nat} (h : WordsV w v l) (i : Nat) : l.getD i 0 < 4294967296 := by
  cases h with
  | some b off cap l hl hm hw hc => exact hw i
  | empty a cap => simp
theorem WordsV.at_ {w : World} {a : Option Addr} {cap : Nat} {l : List Nat} (h : WordsV w (.slice a l.length cap) l) (i : Nat) (hi : i < l.length) :
    ∃ b off, a = Option.some ⟨b, off, none⟩ ∧ w.cell? ⟨b, off + i, none⟩ = Option.some (.int .u32 ((l.getD i 0 : Nat) : Int)) := by
  generalize hn : l.length = n at h
  generalize hv : Value.slice a n cap = v at h
  cases h with
  | some b off cap' l hl hm hw hc => cases hv; exact ⟨b, off, rfl, hc i hi⟩
  | empty a' cap' => exact absurd hi (Nat.not_lt_zero i)
theorem WordsV.len {w : World} {a : Option Addr} {cap : Nat} {l : List Nat} (h : WordsV w (.slice a l.length cap) l) : l.length ≤ 9223372036854775807 := by
  generalize hn : l.length = n at h
  generalize hv : Value.slice a n cap = v at h
  cases h with
  | some b off cap' l hl hm hw hc => cases hv; omega
  | empty a' cap' => cases hv; omega

/-- Is a place on? -/
def onB (ws : List Nat) (i : Nat) : Bool := (ws.getD (i / 32) 0).testBit (i % 32)

theorem u32_and1 (y : Nat) (hy : y < 4294967296) : bits .and .u32 (y : Int) 1 = ((y % 2 : Nat) : Int) := by
  have h := (bits_nat .u32 32 (by decide) (fun n h0 h1 => by rw [IntKind.wrap_u32]; omega) y 1 hy (by decide)).1
  rw [show ((1 : Nat) : Int) = 1 from rfl] at h
  rw [h, Nat.and_one_is_mod]
theorem u32_bit (x k : Nat) (hx : x < 4294967296) : (bits .and .u32 ((x : Int) / 2 ^ k) 1 == 1) = x.testBit k := by
  have e : (x : Int) / 2 ^ k = ((x / 2 ^ k : Nat) : Int) := by push_cast; rfl
  rw [e, u32_and1 _ (Nat.lt_of_le_of_lt (Nat.div_le_self _ _) hx), Nat.testBit_eq_decide_div_mod_eq]
  rw [Bool.eq_iff_iff, beq_iff_eq, decide_eq_true_iff]
  omega

set_option maxHeartbeats 400000 in
theorem isOn_any {w : World} {n : Int} {a : Option Addr} {cap : Nat} {ws : List Nat} (hv : WordsV w (.slice a ws.length cap) ws) (i : Nat) (hi : i < 32 * ws.length) :
    Calls Tryd.prog 38 #[.agg #[.int .i64 n, .slice a ws.length cap], .int .i64 (i : Int)] w fun r w' => r = .returned (.bool (onB ws i)) ∧ w' = w.alloc (.cells #[.int .i64 n, .slice a ws.length cap] 24) := by
  obtain ⟨b, off, rfl, c1⟩ := hv.at_ (i / 32) (by omega)
  have hlt := hv.lt (i / 32)
  have hlen := hv.len
  have hb := cell_lt c1
  obtain ⟨W0, hW0, e0, e1, e2⟩ := allocs1 w (.cells #[.int .i64 n, .slice (some ⟨b, off, none⟩) ws.length cap] 24)
  have c2 := (e0.cell (p := ⟨b, off + i / 32, none⟩) hb).trans c1
  unfold onB
  generalize ws.getD (i / 32) 0 = x at *
  have i1 : (0 : Int) ≤ (i : Int) / 32 := by omega
  have i2 : (i : Int) / 32 < (ws.length : Int) := by omega
  have i3 : ((i : Int) / 32).toNat = i / 32 := by omega
  have c3 := cells_cell (i := 1) e2 (v := .slice (some ⟨b, off, none⟩) ws.length cap) rfl
  clear hv c1 e0 e1 e2
  go_enter Tryd.func38, Tryd.ntmps38
  go_wp2
  go_ret
  refine ⟨?_, rfl⟩
  show Ending.returned (.bool (bits BinOp.and IntKind.u32 ((x : Int) / 2 ^ (i % 32)) 1 == 1)) = _
  rw [u32_bit x (i % 32) hlt]

/-! ### Words turned -/
theorem ofNat_lt {a : Nat} (ha : a < 4294967296) : (BitVec.ofNat 32 a).toNat = a := by rw [BitVec.toNat_ofNat]; exact Nat.mod_eq_of_lt ha
/-- A word with a place turned. -/
def clearW (x k : Nat) : Nat := (BitVec.ofNat 32 x &&& ~~~(BitVec.ofNat 32 (2 ^ k))).toNat
def turnW (x k : Nat) (on : Bool) : Nat := bif on then clearW x k ||| 2 ^ k else clearW x k
theorem clearW_lt (x k : Nat) : clearW x k < 4294967296 := (BitVec.ofNat 32 x &&& ~~~(BitVec.ofNat 32 (2 ^ k))).isLt
theorem clearW_bit (x k j : Nat) (hj : j < 32) : (clearW x k).testBit j = (x.testBit j && !decide (j = k)) := by
  unfold clearW
  rw [BitVec.testBit_toNat, BitVec.getLsbD_and, BitVec.getLsbD_not, BitVec.getLsbD_ofNat, BitVec.getLsbD_ofNat, Nat.testBit_two_pow]
  by_cases h : k = j
  · simp [hj, h]
  · have h' : ¬ j = k := fun e => h e.symm
    simp [hj, h, h']
theorem turnW_lt (x k : Nat) (hk : k < 32) (on : Bool) : turnW x k on < 4294967296 := by
  unfold turnW
  cases on with
  | false => exact clearW_lt x k
  | true => exact Nat.or_lt_two_pow (n := 32) (clearW_lt x k) (Nat.pow_lt_pow_right (by decide) hk)
theorem turnW_bit (x k j : Nat) (hj : j < 32) (on : Bool) : (turnW x k on).testBit j = if j = k then on else x.testBit j := by
  unfold turnW
  cases on with
  | false =>
    show (clearW x k).testBit j = _
    rw [clearW_bit x k j hj]
    by_cases h : j = k <;> simp [h]
  | true =>
    show (clearW x k ||| 2 ^ k).testBit j = _
    rw [Nat.testBit_or, clearW_bit x k j hj, Nat.testBit_two_pow]
    by_cases h : j = k
    · simp [h]
    · have h' : ¬ k = j := fun e => h e.symm
      simp [h, h']
theorem u32_andNot (x k : Nat) : bits .andNot .u32 (x : Int) ((2 ^ k : Nat) : Int) = ((clearW x k : Nat) : Int) := by
  have h : bits .andNot .u32 (x : Int) ((2 ^ k : Nat) : Int) = IntKind.u32.wrap ((clearW x k : Nat) : Int) := by
    simp only [bits, BitVec.ofInt_natCast]
    rfl
  rw [h, IntKind.wrap_u32]
  have := clearW_lt x k
  omega

/-! ### Which bits are right -/
def tailB (ws : List Nat) (N : Nat) : Bool := (List.range (32 * ws.length)).all fun i => decide (i < N) || !onB ws i
def rightB (n : Int) (ws : List Nat) : Bool := decide (0 ≤ n) && (decide (n ≤ 20000) && (decide ((ws.length : Int) = (n + 31) / 32) && tailB ws n.toNat))
theorem tailB_iff (ws : List Nat) (N : Nat) : tailB ws N = true ↔ ∀ i, N ≤ i → i < 32 * ws.length → onB ws i = false := by
  unfold tailB
  rw [List.all_eq_true]
  constructor
  · intro h i h1 h2
    have := h i (List.mem_range.2 h2)
    simpa [show ¬ i < N by omega] using this
  · intro h i hi
    have := List.mem_range.1 hi
    by_cases h1 : i < N
    · simp [h1]
    · simp [h1, h i (by omega) this]
theorem tail_even {ws : List Nat} {N : Nat} (hl : ws.length = (N + 31) / 32) (h0 : N % 32 = 0) : tailB ws N = true := (tailB_iff ws N).2 fun i h1 h2 => by omega
theorem tail_odd {ws : List Nat} {N : Nat} (hl : ws.length = (N + 31) / 32) (h0 : N % 32 ≠ 0) (hlt : ws.getD (ws.length - 1) 0 < 4294967296) : tailB ws N = decide (ws.getD (ws.length - 1) 0 / 2 ^ (N % 32) = 0) := by
  rw [Bool.eq_iff_iff, tailB_iff, decide_eq_true_iff]
  have hd : N / 32 = ws.length - 1 := by omega
  constructor
  · intro h
    refine Nat.eq_of_testBit_eq fun j => ?_
    rw [Nat.zero_testBit, ← Nat.shiftRight_eq_div_pow, Nat.testBit_shiftRight]
    by_cases hj : N % 32 + j < 32
    · have := h (32 * (ws.length - 1) + (N % 32 + j)) (by omega) (by omega)
      unfold onB at this
      rw [show (32 * (ws.length - 1) + (N % 32 + j)) / 32 = ws.length - 1 by omega, show (32 * (ws.length - 1) + (N % 32 + j)) % 32 = N % 32 + j by omega] at this
      exact this
    · exact Nat.testBit_lt_two_pow (Nat.lt_of_lt_of_le hlt (Nat.pow_le_pow_right (n := 2) (by decide) (show 32 ≤ N % 32 + j by omega)))
  · intro h i h1 h2
    have hi : i / 32 = ws.length - 1 := by omega
    unfold onB
    rw [hi]
    have := congrArg (fun y => Nat.testBit y (i % 32 - N % 32)) h
    simp only [Nat.zero_testBit] at this
    rw [← Nat.shiftRight_eq_div_pow, Nat.testBit_shiftRight] at this
    rw [show N % 32 + (i % 32 - N % 32) = i % 32 by omega] at this
    exact this

theorem div_pow_zero (x k : Nat) : ((x : Int) / 2 ^ k == 0) = decide (x / 2 ^ k = 0) := by
  have e : (x : Int) / 2 ^ k = ((x / 2 ^ k : Nat) : Int) := by push_cast; rfl
  rw [e, Bool.eq_iff_iff, beq_iff_eq, decide_eq_true_iff]
  omega

theorem words_any (n : Int) (w : World) (h0 : 0 ≤ n) (h1 : n ≤ 20000) : Calls Tryd.prog 37 #[.int .i64 n] w fun r w' => r = .returned (.int .i64 ((n + 31) / 32)) ∧ w' = w := by
  go_enter Tryd.func37, Tryd.ntmps37
  go_wp2
  go_ret
  refine ⟨?_, rfl⟩
  first | rfl | (simp; omega) | (congr 2; omega)

set_option maxHeartbeats 2000000 in
set_option maxRecDepth 20000 in
theorem right_any2 {w : World} {n : Int} {v : Value} {ws : List Nat} (hv : WordsV w v ws) :
    Calls Tryd.prog 14 #[.agg #[.int .i64 n, v]] w fun r w' => r = .returned (.bool (rightB n ws)) ∧ Below w.heap.size w w' := by
  obtain ⟨a, cap, rfl⟩ := hv.slice
  have hB := (Below.refl w.heap.size w).alloc (Nat.le_refl _) (.cells #[.int .i64 n, .slice a ws.length cap] 24)
  have hlen := hv.len
  by_cases h0 : n < 0
  · have e : rightB n ws = false := by unfold rightB; rw [decide_eq_false (show ¬ 0 ≤ n by omega)]; rfl
    rw [e]
    have g0 : decide (n < 0) = true := decide_eq_true h0
    clear hv e
    go_enter Tryd.func14, Tryd.ntmps14
    go_wp2
    go_quiet (fail)
    go_wp2
    go_ret
    exact ⟨rfl, by first | exact hB | exact below_drewN hB _⟩
  · have g0 : decide (n < 0) = false := decide_eq_false (by omega)
    by_cases h1 : 20000 < n
    · have e : rightB n ws = false := by unfold rightB; rw [decide_eq_true (show 0 ≤ n by omega), decide_eq_false (show ¬ n ≤ 20000 by omega)]; rfl
      rw [e]
      have g1 : decide (20000 < n) = true := decide_eq_true h1
      clear hv e
      go_enter Tryd.func14, Tryd.ntmps14
      go_wp2
      go_quiet (fail)
      go_wp2
      go_ret
      exact ⟨rfl, by first | exact hB | exact below_drewN hB _⟩
    · have g1 : decide (20000 < n) = false := decide_eq_false (by omega)
      obtain ⟨N, rfl⟩ : ∃ N : Nat, n = N := ⟨n.toNat, by omega⟩
      have hW : ∀ (W : World), Calls Tryd.prog 37 #[.int .i64 (N : Int)] W fun r w' => r = .returned (.int .i64 (((N + 31) / 32 : Nat) : Int)) ∧ w' = W := fun W => by
        have := words_any (N : Int) W (by omega) (by omega)
        rw [show ((N : Int) + 31) / 32 = (((N + 31) / 32 : Nat) : Int) by omega] at this
        exact this
      by_cases hl : ws.length = (N + 31) / 32
      · by_cases hr : N % 32 = 0
        · have e : rightB (N : Int) ws = true := by unfold rightB; rw [decide_eq_true (show (0 : Int) ≤ N by omega), decide_eq_true (show (N : Int) ≤ 20000 by omega), decide_eq_true (show (ws.length : Int) = ((N : Int) + 31) / 32 by omega), Int.toNat_natCast, tail_even hl hr]; rfl
          rw [e]
          have g2 : ((ws.length : Int) != (((N + 31) / 32 : Nat) : Int)) = false := by simp; omega
          have g3 : (((N : Int) % 32) == 0) = true := by rw [beq_iff_eq]; omega
          clear e hr hl hv
          go_enter Tryd.func14, Tryd.ntmps14
          go_wp2
          go_quiet ((go_at_call 37; exact Calls.quiet_of_same (hW _)))
          go_wp2
          go_ret
          exact ⟨by first | rfl | simp, by first | exact hB | exact below_drewN hB _⟩
        · have e : rightB (N : Int) ws = decide (ws.getD (ws.length - 1) 0 / 2 ^ (N % 32) = 0) := by
            unfold rightB
            rw [decide_eq_true (show (0 : Int) ≤ N by omega), decide_eq_true (show (N : Int) ≤ 20000 by omega), decide_eq_true (show (ws.length : Int) = ((N : Int) + 31) / 32 by omega), Int.toNat_natCast, tail_odd hl hr (hv.lt _)]; rfl
          rw [e]
          have g2 : ((ws.length : Int) != (((N + 31) / 32 : Nat) : Int)) = false := by simp; omega
          have g3 : (((N : Int) % 32) == 0) = false := by rw [beq_eq_false_iff_ne]; omega
          obtain ⟨b, off, rfl, c1⟩ := hv.at_ (ws.length - 1) (by omega)
          have hlt := hv.lt (ws.length - 1)
          have hb := cell_lt c1
          have hwl : 0 < ws.length := by omega
          obtain ⟨k, hk⟩ : ∃ k, ws.length = k + 1 := ⟨ws.length - 1, by omega⟩
          rw [hk, Nat.add_sub_cancel] at c1 hlt
          rw [show ws.length - 1 = k by omega]
          generalize ws.getD k 0 = x at *
          clear e hl hv
          rw [hk] at g2 hB ⊢
          have hk2 : k + 1 ≤ 9223372036854775807 := by omega
          clear hk hlen hwl
          go_enter Tryd.func14, Tryd.ntmps14
          go_wp2
          go_quiet ((go_at_call 37; exact Calls.quiet_of_same (hW _)))
          go_wp2
          go_ret
          refine ⟨?_, by first | exact hB | exact below_drewN hB _⟩
          show Ending.returned (.bool ((x : Int) / 2 ^ (N % 32) == 0)) = _
          rw [div_pow_zero]
      · have e : rightB (N : Int) ws = false := by
          unfold rightB
          rw [decide_eq_true (show (0 : Int) ≤ N by omega), decide_eq_true (show (N : Int) ≤ 20000 by omega), decide_eq_false (show ¬ (ws.length : Int) = ((N : Int) + 31) / 32 by omega)]; rfl
        rw [e]
        have g2 : ((ws.length : Int) != (((N + 31) / 32 : Nat) : Int)) = true := by simp; omega
        clear e hl hv
        go_enter Tryd.func14, Tryd.ntmps14
        go_wp2
        go_quiet ((go_at_call 37; exact Calls.quiet_of_same (hW _)))
        go_wp2
        go_ret
        exact ⟨rfl, by first | exact hB | exact below_drewN hB _⟩
end Go.Proofs.YtlncilcoohmlkaaDoor

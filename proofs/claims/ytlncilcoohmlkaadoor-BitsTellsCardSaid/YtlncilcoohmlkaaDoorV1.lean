/- Layer bits: the document's answer: worth, on, Right, Has. -/
import Derived.Test.YtlncilcoohmlkaaDoorU9
namespace Go.Proofs.YtlncilcoohmlkaaDoor
open Go.RowKit
attribute [local go_sem ↓] Go.wp_at_zero Go.wp_at_succ

theorem worth_any (i : Nat) (hi : i ≤ 20000000) (w : World) : Calls Tryd.prog 41 #[.int .i64 (i : Int)] w fun r w' => r = .returned (.int .u32 ((2 ^ (i % 32) : Nat) : Int)) ∧ w' = w := by
  have hm : i % 32 < 32 := Nat.mod_lt _ (by decide)
  generalize hmm : i % 32 = m at *
  have i7 : (i : Int).tmod 32 = (m : Int) := by rw [Int.tmod_eq_emod_of_nonneg (by omega)]; omega
  have HM := Lib.hid hmm
  clear hmm
  go_enter Tryd.func41, Tryd.ntmps41
  go_wp2
  go_loopw [3, 4] (fun x k W => ∃ j : Nat, j ≤ m ∧ k = .int .i64 j ∧ x = .int .u32 ((2 ^ j : Nat) : Int) ∧ W = w) (fun _ k _ => m - (intOf k).toNat)
  case atStart => exact ⟨0, Nat.zero_le _, rfl, rfl, rfl⟩
  case round =>
    obtain ⟨j, hj, rfl, rfl, rfl⟩ := hrel
    by_cases hlt : j < m
    · have hp : 2 ^ (j + 1) < 4294967296 := Nat.lt_of_lt_of_eq (Nat.pow_lt_pow_right (a := 2) (show 1 < 2 by decide) (show j + 1 < 32 by omega)) (by decide)
      have h2 : 2 ^ (j + 1) = 2 * 2 ^ j := by rw [Nat.pow_succ, Nat.mul_comm]
      generalize hz : 2 ^ (j + 1) = z at *
      generalize 2 ^ j = y at *
      have HZ := Lib.hid hz
      clear hz
      have iw : IntKind.u32.wrap (2 * (y : Int)) = (z : Int) := by rw [h2, IntKind.wrap_u32]; push_cast; omega
      clear h2 hp
      go_wp2
      go_round
      case rel => exact ⟨j + 1, by omega, by go_num, by rw [HZ.out], trivial⟩
      case measure => simp [intOf]; omega
    · obtain rfl : j = m := by omega
      go_wp2
      go_ret
      exact ⟨rfl, rfl⟩

theorem on_worth (x p k : Nat) (hp : 2 ^ k = p) : (((x : Int) / (p : Int)).tmod 2 == 1) = x.testBit k := by
  have e : (x : Int) / (p : Int) = ((x / p : Nat) : Int) := by push_cast; rfl
  rw [e, Int.tmod_eq_emod_of_nonneg (Int.natCast_nonneg _), Nat.testBit_eq_decide_div_mod_eq, hp, Bool.eq_iff_iff, beq_iff_eq, decide_eq_true_iff]
  generalize x / p = y
  omega
set_option maxHeartbeats 400000 in
theorem onRef_any {w : World} {n : Int} {a : Option Addr} {cap : Nat} {ws : List Nat} (hv : WordsV w (.slice a ws.length cap) ws) (i : Nat) (hi : i < 32 * ws.length) (hi2 : i ≤ 20000000) :
    Calls Tryd.prog 40 #[.agg #[.int .i64 n, .slice a ws.length cap], .int .i64 (i : Int)] w fun r w' => r = .returned (.bool (onB ws i)) ∧ Below w.heap.size w w' := by
  obtain ⟨b, off, rfl, c1⟩ := hv.at_ (i / 32) (by omega)
  have hlt := hv.lt (i / 32)
  have hlen := hv.len
  have hb := cell_lt c1
  obtain ⟨W0, hW0, e0, e1, e2⟩ := allocs1 w (.cells #[.int .i64 n, .slice (some ⟨b, off, none⟩) ws.length cap] 24)
  have c2 := (e0.cell (p := ⟨b, off + i / 32, none⟩) hb).trans c1
  have W1 := fun W => worth_any i hi2 W
  have hk : i % 32 < 32 := Nat.mod_lt _ (by decide)
  unfold onB
  generalize ws.getD (i / 32) 0 = x at *
  generalize hkk : i % 32 = k at *
  have i1 : (0 : Int) ≤ (i : Int) / 32 := by omega
  have i2 : (i : Int) / 32 < (ws.length : Int) := by omega
  have i3 : ((i : Int) / 32).toNat = i / 32 := by omega
  have i4 : IntKind.i64.wrap ((i : Int) / 32) = (i : Int) / 32 := IntWalk.i64_in _ (by omega)
  have c3 := cells_cell (i := 1) e2 (v := .slice (some ⟨b, off, none⟩) ws.length cap) rfl
  have hpos : 0 < 2 ^ k := Nat.two_pow_pos k
  generalize hp : 2 ^ k = p at *
  have HP := Lib.hid hp
  have hne : ¬ ((p : Int) = 0) := by omega
  clear hv c1 e1 e2 hp hkk
  go_enter Tryd.func40, Tryd.ntmps40
  go_wp2
  go_quiet ((go_at_call 41; exact Calls.quiet_of_same (W1 _)))
  go_wp2
  go_ret
  refine ⟨?_, below_drewN e0 _⟩
  show Ending.returned (.bool (((x : Int) / (p : Int)).tmod 2 == 1)) = _
  rw [on_worth x p k HP.out]

theorem bl2 {w W W' : World} (h : Below w.heap.size w W) (h' : Below W.heap.size W W') : Below w.heap.size w W' := h.trans (h'.mono h.size)
set_option maxHeartbeats 2000000 in
set_option maxRecDepth 20000 in
theorem rightRef_any {w : World} {n : Int} {v : Value} {ws : List Nat} (hv : WordsV w v ws) (hlen : ws.length ≤ 20000) :
    Calls Tryd.prog 29 #[.agg #[.int .i64 n, v]] w fun r w' => r = .returned (.bool (rightB n ws)) ∧ Below w.heap.size w w' := by
  obtain ⟨a, cap, rfl⟩ := hv.slice
  obtain ⟨w1, hw1, a0, a1, a2⟩ := allocs1 w (.cells #[.int .i64 n, .slice a ws.length cap] 24)
  have c0 := cells_cell (i := 0) a2 (v := .int .i64 n) rfl
  have c1 := cells_cell (i := 1) a2 (v := .slice a ws.length cap) rfl
  by_cases h0 : n < 0
  · have e : rightB n ws = false := by unfold rightB; rw [decide_eq_false (show ¬ 0 ≤ n by omega)]; rfl
    rw [e]
    have g0 : decide (n < 0) = true := decide_eq_true h0
    clear hv e a1 a2
    go_enter Tryd.func29, Tryd.ntmps29
    go_wp2
    go_ret
    exact ⟨rfl, a0⟩
  · have g0 : decide (n < 0) = false := decide_eq_false (by omega)
    by_cases h1 : 20000 < n
    · have e : rightB n ws = false := by unfold rightB; rw [decide_eq_true (show 0 ≤ n by omega), decide_eq_false (show ¬ n ≤ 20000 by omega)]; rfl
      rw [e]
      have g1 : decide (20000 < n) = true := decide_eq_true h1
      clear hv e a1 a2
      go_enter Tryd.func29, Tryd.ntmps29
      go_wp2
      go_ret
      exact ⟨rfl, a0⟩
    · have g1 : decide (20000 < n) = false := decide_eq_false (by omega)
      obtain ⟨N, rfl⟩ : ∃ N : Nat, n = N := ⟨n.toNat, by omega⟩
      have iw : IntKind.i64.wrap ((N : Int) + 31) = (N : Int) + 31 := IntWalk.i64_in _ (by omega)
      have id1 : ((N : Int) + 31) / 32 = (((N + 31) / 32 : Nat) : Int) := by omega
      by_cases hl : ws.length = (N + 31) / 32
      · have g2 : ((ws.length : Int) != ((N : Int) + 31) / 32) = false := by simp; omega
        have e : rightB (N : Int) ws = tailB ws N := by
          unfold rightB
          rw [decide_eq_true (show (0 : Int) ≤ N by omega), decide_eq_true (show (N : Int) ≤ 20000 by omega), decide_eq_true (show (ws.length : Int) = ((N : Int) + 31) / 32 by omega), Int.toNat_natCast]; rfl
        rw [e]
        have HV := Lib.hid hv
        have HLL := Lib.hid hl
        have iw2 : IntKind.i64.wrap (32 * (ws.length : Int)) = 32 * (ws.length : Int) := IntWalk.i64_in _ (by omega)
        clear hv e a1 id1 hl
        have hNl : N ≤ 32 * ws.length := by have := HLL.out; omega
        go_enter Tryd.func29, Tryd.ntmps29
        go_wp2
        clear hw1
        go_loopw [3] (fun i W => ∃ k : Nat, N ≤ k ∧ k ≤ 32 * ws.length ∧ i = .int .i64 k ∧ (∀ j, N ≤ j → j < k → onB ws j = false) ∧ Below w1.heap.size w1 W) (fun i _ => 32 * ws.length - (intOf i).toNat)
        case atStart => exact ⟨N, Nat.le_refl _, hNl, rfl, fun j h1 h2 => by omega, Below.refl _ _⟩
        case round =>
          obtain ⟨k, hNk, hk, rfl, hp, hB⟩ := hrel
          have HP := Lib.hid hp
          have d0 := (hB.cell (p := ⟨w.heap.size, 0, none⟩) (cell_lt c0)).trans c0
          have d1 := (hB.cell (p := ⟨w.heap.size, 1, none⟩) (cell_lt c1)).trans c1
          have iw3 : IntKind.i64.wrap ((k : Int) + 1) = (k : Int) + 1 := IntWalk.i64_in _ (by omega)
          clear hp
          by_cases hlt : k < 32 * ws.length
          · have m1 := onRef_any (n := (N : Int)) ((HV.out.below a0).below hB) k hlt (by omega)
            have g3 : decide ((k : Int) < 32 * (ws.length : Int)) = true := decide_eq_true (by omega)
            go_wp2_with fail
            refine m1.mono ?_
            rintro r w2 ⟨rfl, hb2⟩
            have hB2 := bl2 hB hb2
            clear m1 hb2 d0 d1
            cases ho : onB ws k with
            | false =>
              have HO := Lib.hid ho
              clear ho
              go_wp2
              go_round
              case rel => exact ⟨k + 1, by omega, by omega, by go_num, fun j h1 h2 => by by_cases e : j = k; (subst e; exact HO.out); exact HP.out j h1 (by omega), by first | exact hB2 | exact hB2.drew⟩
              case measure => simp [intOf]; omega
            | true =>
              have hf : tailB ws N = false := by
                cases h : tailB ws N with
                | false => rfl
                | true => rw [(tailB_iff ws N).1 h k hNk hlt] at ho; cases ho
              have HFI := Lib.hid hf
              clear hf ho
              have hfin := bl2 a0 hB2
              go_wp2
              go_ret
              exact ⟨by rw [HFI.out]; rfl, by first | exact hfin | exact hfin.drew⟩
          · have g3 : decide ((k : Int) < 32 * (ws.length : Int)) = false := decide_eq_false (by omega)
            have ht : tailB ws N = true := (tailB_iff ws N).2 fun j h1 h2 => HP.out j h1 (by omega)
            have HFI := Lib.hid ht
            have hfin := bl2 a0 hB
            clear ht
            go_wp2
            go_ret
            exact ⟨by rw [HFI.out]; rfl, by first | exact hfin | exact hfin.drew⟩
      · have e : rightB (N : Int) ws = false := by
          unfold rightB
          rw [decide_eq_true (show (0 : Int) ≤ N by omega), decide_eq_true (show (N : Int) ≤ 20000 by omega), decide_eq_false (show ¬ (ws.length : Int) = ((N : Int) + 31) / 32 by omega)]; rfl
        rw [e]
        have g2 : ((ws.length : Int) != ((N : Int) + 31) / 32) = true := by simp; omega
        clear hv e a1 a2 hl id1
        go_enter Tryd.func29, Tryd.ntmps29
        go_wp2
        go_ret
        exact ⟨rfl, a0⟩
end Go.Proofs.YtlncilcoohmlkaaDoor

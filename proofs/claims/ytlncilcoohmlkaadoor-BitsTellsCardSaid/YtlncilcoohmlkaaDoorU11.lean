/- Layer bits: slices.Equal over words; Same. -/
import Derived.Test.YtlncilcoohmlkaaDoorU9
import Derived.BigQuiet
namespace Go.Proofs.YtlncilcoohmlkaaDoor
open Go.RowKit
attribute [local go_sem ↓] Go.wp_at_zero Go.wp_at_succ

set_option maxHeartbeats 1000000 in
set_option maxRecDepth 20000 in
theorem equalU_any {w : World} {v u : Value} {ws us : List Nat} (hv : WordsV w v ws) (hu : WordsV w u us) :
    Calls Tryd.prog 43 #[v, u] w fun r w' => r = .returned (.bool (decide (ws = us))) ∧ Below w.heap.size w w' := by
  have HV := Lib.hid hv
  have HU := Lib.hid hu
  obtain ⟨a, cap, rfl⟩ := hv.slice
  obtain ⟨b, cap', rfl⟩ := hu.slice
  have hlen := hv.len
  by_cases hl : ws.length = us.length
  · rw [← hl] at HU ⊢
    have HL := Lib.hid hl
    have gl : ((ws.length : Int) != (ws.length : Int)) = false := by simp
    clear hl hv hu
    go_enter Tryd.func43, Tryd.ntmps43
    go_wp2
    go_loopw [13] (fun i W => ∃ k : Nat, k ≤ ws.length ∧ i = .int .i64 k ∧ (∀ j, j < k → ws.getD j 0 = us.getD j 0) ∧ Below w.heap.size w W) (fun i _ => ws.length - (intOf i).toNat)
    case atStart => exact ⟨0, Nat.zero_le _, rfl, fun j hj => by omega, Below.refl _ _⟩
    case round =>
      obtain ⟨k, hk, rfl, hp, hB⟩ := hrel
      have HP := Lib.hid hp
      clear hp
      by_cases hlt : k < ws.length
      · obtain ⟨b1, o1, rfl, f1⟩ := (HV.out.below hB).at_ k hlt
        have hlt' := hlt
        rw [HL.out] at hlt'
        have hu' := HU.out.below hB
        rw [HL.out] at hu'
        obtain ⟨b2, o2, rfl, f2⟩ := hu'.at_ k hlt'
        generalize hx : ws.getD k 0 = x at f1
        generalize hy : us.getD k 0 = y at f2
        have HX := Lib.hid hx
        have HY := Lib.hid hy
        clear hx hy hu' hlt'
        have i1 : (0 : Int) ≤ (k : Int) := by omega
        have i2 : (k : Int) < (ws.length : Int) := by omega
        by_cases e : x = y
        · subst e
          have ge : (((x : Nat) : Int) != ((x : Nat) : Int)) = false := by simp
          go_wp2
          go_quiet (fail)
          clear i1 i2
          go_wp2
          go_round
          case rel => exact ⟨k + 1, by omega, by go_num, fun j hj => by by_cases hjk : j = k; (subst hjk; rw [HX.out, HY.out]); exact HP.out j (by omega), by first | exact hB | exact below_drewN hB _⟩
          case measure => simp [intOf]; omega
        · have ge : (((x : Nat) : Int) != ((y : Nat) : Int)) = true := by simp; omega
          have hne : ws ≠ us := ne_of_getDW (k := k) (by rw [HX.out, HY.out]; exact e)
          have HE := Lib.hid e
          have HNE := Lib.hid hne
          clear e hne
          go_wp2
          go_quiet (fail)
          clear i1 i2
          go_wp2
          go_ret
          exact ⟨by rw [decide_eq_false HNE.out]; rfl, by first | exact hB | exact below_drewN hB _⟩
      · have hle : ws.length ≤ k := by omega
        have heq : ws = us := eq_of_getDW HL.out (fun j hj => HP.out j (by omega))
        have HEQ := Lib.hid heq
        clear heq
        go_wp2
        go_ret
        exact ⟨by rw [decide_eq_true HEQ.out]; rfl, hB⟩
  · have g1 : ((ws.length : Int) != (us.length : Int)) = true := by simp; omega
    have e : decide (ws = us) = false := decide_eq_false (fun h => hl (by rw [h]))
    rw [e]
    have HL := Lib.hid hl
    clear hl e hv hu
    go_enter Tryd.func43, Tryd.ntmps43
    go_wp2
    go_ret
    exact ⟨rfl, Below.refl _ _⟩

set_option maxHeartbeats 1000000 in
set_option maxRecDepth 20000 in
theorem same_any2 {w : World} {n m : Int} {v u : Value} {ws us : List Nat} (hv : WordsV w v ws) (hu : WordsV w u us) :
    Calls Tryd.prog 26 #[.agg #[.int .i64 n, v], .agg #[.int .i64 m, u]] w fun r w' => r = .returned (.bool (sameB n ws m us)) ∧ Below w.heap.size w w' := by
  obtain ⟨w1, hw1, a0, a1, a2, a3⟩ := allocs2 w (.cells #[.int .i64 n, v] 24) (.cells #[.int .i64 m, u] 24)
  have Q := equalU_any (hv.below a0) (hu.below a0)
  obtain ⟨a, cap, rfl⟩ := hv.slice
  obtain ⟨b, cap', rfl⟩ := hu.slice
  have c0 := cells_cell (i := 0) a2 (v := .int .i64 n) rfl
  have c1 := cells_cell (i := 1) a2 (v := .slice a ws.length cap) rfl
  have c2 := cells_cell (i := 0) a3 (v := .int .i64 m) rfl
  have c3 := cells_cell (i := 1) a3 (v := .slice b us.length cap') rfl
  unfold sameB
  clear a1 a2 a3 hv hu
  by_cases hn : n = m
  · subst hn
    have g1 : (n == n) = true := by simp
    rw [decide_eq_true rfl]
    go_enter Tryd.func26, Tryd.ntmps26
    go_wp2_with fail
    refine Q.mono ?_
    rintro r w' ⟨rfl, hb⟩
    clear Q
    go_wp2
    go_ret
    exact ⟨rfl, a0.trans (hb.mono a0.size)⟩
  · have g1 : (n == m) = false := by simpa using hn
    rw [decide_eq_false hn]
    clear hn Q
    go_enter Tryd.func26, Tryd.ntmps26
    go_wp2
    go_ret
    exact ⟨rfl, a0⟩
end Go.Proofs.YtlncilcoohmlkaaDoor

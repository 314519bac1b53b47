/- Layer hole: how many holes are so long. -/
import Derived.Test.YtmgllljilnkkcaaDoorH8
import Derived.Test.YtmgllljilnkkcaaDoorAr
namespace Go.Proofs.YtmgllljilnkkcaaDoor
open Go Go.RowKit
theorem getD_map_r8 (f : Nat → Int) (n j : Nat) (hj : j < n) : ((List.range n).map f).getD j 0 = f j := by
  simp [List.getD, hj]
attribute [local go_sem ↓] Go.wp_at_zero Go.wp_at_succ

def lensT (L : List (Nat × Nat)) (j : Nat) : Int := ((L.countP fun h => h.2 - h.1 == j : Nat) : Int)
def lensL (L : List (Nat × Nat)) : List Int := (List.range 33).map (lensT L)
theorem lensT_zero (j : Nat) : lensT [] j = 0 := rfl
theorem lensT_succ {L : List (Nat × Nat)} {k : Nat} (hk : k < L.length) (j : Nat) : lensT (L.take (k + 1)) j = lensT (L.take k) j + (if (L.getD k (0, 0)).2 - (L.getD k (0, 0)).1 = j then 1 else 0) := by
  have e : L.getD k (0, 0) = L[k] := by simp [List.getD, hk]
  unfold lensT
  rw [e, List.take_add_one, List.getElem?_eq_getElem hk, List.countP_append]
  by_cases h : L[k].2 - L[k].1 = j <;> simp [h]
theorem zeros33 : ∀ j, j < 33 → (#[.int .i64 0, .int .i64 0, .int .i64 0, .int .i64 0, .int .i64 0, .int .i64 0, .int .i64 0, .int .i64 0, .int .i64 0, .int .i64 0, .int .i64 0, .int .i64 0, .int .i64 0, .int .i64 0, .int .i64 0, .int .i64 0, .int .i64 0, .int .i64 0, .int .i64 0, .int .i64 0, .int .i64 0, .int .i64 0, .int .i64 0, .int .i64 0, .int .i64 0, .int .i64 0, .int .i64 0, .int .i64 0, .int .i64 0, .int .i64 0, .int .i64 0, .int .i64 0, .int .i64 0] : Array Value)[j]? = some (.int .i64 0) := by
  intro j hj
  have e : (#[.int .i64 0, .int .i64 0, .int .i64 0, .int .i64 0, .int .i64 0, .int .i64 0, .int .i64 0, .int .i64 0, .int .i64 0, .int .i64 0, .int .i64 0, .int .i64 0, .int .i64 0, .int .i64 0, .int .i64 0, .int .i64 0, .int .i64 0, .int .i64 0, .int .i64 0, .int .i64 0, .int .i64 0, .int .i64 0, .int .i64 0, .int .i64 0, .int .i64 0, .int .i64 0, .int .i64 0, .int .i64 0, .int .i64 0, .int .i64 0, .int .i64 0, .int .i64 0, .int .i64 0] : Array Value) = Array.replicate 33 (.int .i64 0) := rfl
  rw [e]; simp [hj]

set_option maxHeartbeats 1000000 in
set_option maxRecDepth 20000 in
theorem lengths_right {w : World} {v : Value} {l : List Int} (hv : IntsV w v l) (hr : rightT l = true) :
    Calls Tryd.prog 12 #[v] w fun r w' => (∃ v', r = .returned (.tuple #[v', .int .i64 0]) ∧ IntsV w' v' (lensL (allL l))) ∧ Below w.heap.size w w' := by
  have C := all_any hv
  obtain ⟨a, cap, rfl⟩ := hv.slice
  have e : allE l = 0 := by unfold allE; rw [hr]; rfl
  rw [e] at C
  have hmem : ∀ h ∈ allL l, h.1 < h.2 ∧ h.2 < 33 := by
    intro h hh
    unfold allL at hh
    rw [hr] at hh
    have := scanH_mem (keptB l) 0 0 (Nat.le_refl _) h hh
    exact ⟨this.1, this.2.1⟩
  have hlen : (allL l).length ≤ 33 := by
    unfold allL; rw [hr]; exact scanH_len (keptB l) 0 0 (Nat.le_refl _)
  clear hv e
  go_enter Tryd.func12, Tryd.ntmps12
  go_wp2_with fail
  refine C.mono ?_
  rintro r w1 ⟨⟨v1, rfl, h1⟩, hb1⟩
  obtain ⟨W0, hW0, e0, e1, e2⟩ := allocs1 w1 (.cells #[.int .i64 0, .int .i64 0, .int .i64 0, .int .i64 0, .int .i64 0, .int .i64 0, .int .i64 0, .int .i64 0, .int .i64 0, .int .i64 0, .int .i64 0, .int .i64 0, .int .i64 0, .int .i64 0, .int .i64 0, .int .i64 0, .int .i64 0, .int .i64 0, .int .i64 0, .int .i64 0, .int .i64 0, .int .i64 0, .int .i64 0, .int .i64 0, .int .i64 0, .int .i64 0, .int .i64 0, .int .i64 0, .int .i64 0, .int .i64 0, .int .i64 0, .int .i64 0, .int .i64 0] 64)
  have hA := Arr.made (n := 33) (cap := 33) (f := fun _ => 0) e2 rfl (fun j hj => zeros33 j hj) (by decide) (by decide)
  generalize hL : allL l = L at *
  have HLe := Lib.hid hL
  clear hL
  clear C hr e2 e1
  cases h1 with
  | empty a' cap' =>
    go_wp2_with fail
    refine wp_loop_rounds 1 ?_
    rw [rounds_succ]
    go_wp2
    go_ret2
    refine ⟨⟨_, rfl, ?_⟩, hb1.trans (e0.mono hb1.size)⟩
    rw [HLe.out]
    exact hA.ints _ (by simp [lensL]) fun j hj => (getD_map_r8 (lensT []) 33 j hj).symm
  | some b' cap' L hl hm hc =>
    have HCs := Lib.hid hc
    have HMm := Lib.hid hmem
    clear hc hmem
    go_wp2_with fail
    clear hW0
    go_loopw [19] (fun i W => ∃ (k : Nat) (f : Nat → Int), k ≤ L.length ∧ i = .int .i64 k ∧ Arr W w1.heap.size 33 64 33 f ∧ (∀ j, j < 33 → f j = lensT (L.take k) j) ∧ Below w1.heap.size w1 W) (fun i _ => L.length - (intOf i).toNat)
    case atStart => exact ⟨0, _, Nat.zero_le _, rfl, hA, fun j _ => rfl, e0⟩
    case round =>
      obtain ⟨k, f, hk, rfl, hA1, hf, hB⟩ := hrel
      have HF := Lib.hid hf
      clear hf
      by_cases hlt : k < L.length
      · have c1 := (hB.cell (p := ⟨b', k * 2, none⟩) (cell_lt (HCs.out k hlt).1)).trans (HCs.out k hlt).1
        have c2 := (hB.cell (p := ⟨b', k * 2 + 1, none⟩) (cell_lt (HCs.out k hlt).2)).trans (HCs.out k hlt).2
        have hsu := fun j => lensT_succ hlt j
        have hmx : L.getD k (0, 0) ∈ L := by rw [List.getD_eq_getElem?_getD, List.getElem?_eq_getElem hlt]; exact List.getElem_mem hlt
        have hx := HMm.out _ hmx
        generalize L.getD k (0, 0) = x at c1 c2 hsu hx
        clear hmx
        obtain ⟨x1, x2⟩ := x
        simp only at c1 c2 hsu hx
        obtain ⟨d, hd⟩ : ∃ d, x2 - x1 = d := ⟨_, rfl⟩
        have hdi : (x2 : Int) - x1 = (d : Int) := by omega
        rw [hd] at hsu
        have hd33 : d < 33 := by omega
        have HSu := Lib.hid hsu
        clear hsu
        obtain ⟨V0, hV0, u0, u1, u2⟩ := allocs1 wr (.cells #[.int .i64 (x1 : Int), .int .i64 (x2 : Int)] 29)
        have m0 := cells_cell (i := 0) u2 (v := .int .i64 (x1 : Int)) rfl
        have m1 := cells_cell (i := 1) u2 (v := .int .i64 (x2 : Int)) rfl
        have hA2 := hA1.next u0
        have c3 := hA2.cell d hd33
        have c4 := hA2.free d
        have hq : 0 ≤ f d ∧ f d ≤ 33 := by
          rw [HF.out d hd33]
          unfold lensT
          have h1 := List.countP_le_length (p := fun h : Nat × Nat => h.2 - h.1 == d) (l := L.take k)
          rw [List.length_take] at h1
          omega
        have hS := hA2.set d (f d + 1) hd33
        have hB' := (hB.trans (u0.mono hB.size)).setCell (p := ⟨w1.heap.size, d, none⟩) (Nat.le_refl _) (.int .i64 (f d + 1))
        clear hA1 hA2 hB u0 u1 u2 hd
        go_wp2
        go_round
        case rel =>
          refine ⟨k + 1, _, by omega, by go_num, hS, fun j hj => ?_, hB'⟩
          rw [HSu.out j]
          by_cases e : j = d
          · rw [if_pos e, if_pos e.symm, e, HF.out d hd33]
          · rw [if_neg e, if_neg (fun h => e h.symm), HF.out j hj]; omega
        case measure => simp [intOf]; omega
      · obtain rfl : k = L.length := by omega
        go_wp2
        go_ret2
        refine ⟨⟨_, rfl, ?_⟩, hb1.trans (hB.mono hb1.size)⟩
        rw [HLe.out]
        refine hA1.ints _ (by simp [lensL]) fun j hj => ?_
        rw [HF.out j hj, List.take_length]
        exact (getD_map_r8 (lensT L) 33 j hj).symm
end Go.Proofs.YtmgllljilnkkcaaDoor

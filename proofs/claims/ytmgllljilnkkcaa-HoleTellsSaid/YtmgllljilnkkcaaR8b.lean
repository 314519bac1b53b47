/- The document's answers for layer 8, walked: the sums. -/
import Derived.Test.YtmgllljilnkkcaaR8
import Derived.BigQuiet
import Derived.Deep.QuietTactic
import Derived.IntWalk
import Derived.StillTailTactics
namespace Go.Proofs.Ytmgllljilnkkcaa
open Go Go.RowKit
attribute [local go_sem ↓] Go.wp_at_zero Go.wp_at_succ
attribute [local go_sem ↓] run_max_int run_min_int

theorem refRoom_any {w : World} {v : Value} {l : List Int} (hv : IntsV w v l) :
    Calls Try.prog 20 #[v] w fun r w' => r = .returned (.int .i64 (bif rightT l then 32 - ((linesI l).length : Int) else 0)) ∧ Below w.heap.size w w' := by
  obtain ⟨a, cap, rfl⟩ := hv.slice
  have R := refRight_any hv
  cases hr : rightT l with
  | false =>
    rw [hr] at R
    clear hr hv
    go_enter Try.func20, Try.ntmps20
    go_wp2_with fail
    refine R.mono ?_
    rintro r w1 ⟨rfl, hb1⟩
    clear R
    go_wp2
    go_ret
    exact ⟨rfl, hb1⟩
  | true =>
    rw [hr] at R
    have HV := Lib.hid hv
    have hn0 : (0 : Int) ≤ ((linesI l).length : Int) := Int.natCast_nonneg _
    have hn1 : ((linesI l).length : Int) ≤ 32 := by
      unfold linesI
      rw [hr]
      show ((List.map _ (linesT l)).length : Int) ≤ 32
      rw [List.length_map]
      have := linesT_le l
      omega
    clear hr hv
    go_enter Try.func20, Try.ntmps20
    go_wp2_with fail
    refine R.mono ?_
    rintro r w1 ⟨rfl, hb1⟩
    have m1 := refCount_any (HV.out.below hb1)
    clear R
    obtain ⟨n, hn⟩ : ∃ n, ((linesI l).length : Int) = n := ⟨_, rfl⟩
    rw [hn] at m1 hn0 hn1
    have HN := Lib.hid hn
    clear hn
    go_wp2_with fail
    refine m1.mono ?_
    rintro r w2 ⟨rfl, hb2⟩
    have hb := hb1.trans (hb2.mono hb1.size)
    clear m1 hb1 hb2
    go_wp2
    go_ret
    exact ⟨by rw [HN.out]; rfl, hb⟩

theorem long_take {L : List (Nat × Nat)} {k : Nat} (hk : k < L.length) : longH (L.take (k + 1)) = max (longH (L.take k)) (((L.getD k (0, 0)).2 : Int) - (L.getD k (0, 0)).1) := by
  have e : L.getD k (0, 0) = L[k] := by simp [List.getD, hk]
  rw [e, List.take_add_one, List.getElem?_eq_getElem hk, Option.toList_some, longH_snoc]

set_option maxHeartbeats 1000000 in
set_option maxRecDepth 20000 in
theorem refLongest_any {w : World} {v : Value} {l : List Int} (hv : IntsV w v l) :
    Calls Try.prog 22 #[v] w fun r w' => r = .returned (.int .i64 (longE l)) ∧ Below w.heap.size w w' := by
  have m1 := refAll_any hv
  have hlen := allL_len l
  have hmem := fun k => hole_mem (l := l) k
  have e : longE l = longH (allL l) := by unfold longE allL; cases rightT l <;> rfl
  rw [e]
  clear e
  obtain ⟨a, cap, rfl⟩ := hv.slice
  generalize allE l = e
  generalize allL l = L at *
  have HM := Lib.hid hmem
  clear hv hmem
  go_enter Try.func22, Try.ntmps22
  go_wp2_with fail
  refine m1.mono ?_
  rintro r w1 ⟨⟨v1, rfl, h1⟩, hb1⟩
  obtain ⟨a1, cap1, rfl⟩ := h1.slice
  have H1 := Lib.hid h1
  clear m1 h1
  go_wp2
  go_loopw [5, 6] (fun n i W => ∃ k : Nat, k ≤ L.length ∧ i = .int .i64 k ∧ n = .int .i64 (longH (L.take k)) ∧ Below w1.heap.size w1 W) (fun _ i _ => L.length - (intOf i).toNat)
  case atStart => exact ⟨0, Nat.zero_le _, rfl, rfl, Below.refl _ _⟩
  case round =>
    obtain ⟨k, hk, rfl, rfl, hB⟩ := hrel
    by_cases hlt : k < L.length
    · obtain ⟨b, rfl, c1, c2⟩ := H1.out.at_ k hlt
      have d1 := (hB.cell (p := ⟨b, k * 2, none⟩) (cell_lt c1)).trans c1
      have d2 := (hB.cell (p := ⟨b, k * 2 + 1, none⟩) (cell_lt c2)).trans c2
      have hm := HM.out k hlt
      have ht := long_take hlt
      generalize L.getD k (0, 0) = z at *
      obtain ⟨x1, x2⟩ := z
      simp only at hm ht d1 d2
      generalize longH (L.take k) = n at *
      have HT := Lib.hid ht
      clear ht c1 c2
      have i1 : (0 : Int) ≤ (k : Int) := by omega
      have i2 : (k : Int) < (L.length : Int) := by omega
      have i3 : IntKind.i64.wrap ((x2 : Int) - (x1 : Int)) = (x2 : Int) - (x1 : Int) := IntWalk.i64_in _ (by omega)
      go_wp2
      go_quiet (fail)
      clear i1 i2 i3
      go_wp2
      go_round
      case rel => exact ⟨k + 1, by omega, by go_num, by rw [HT.out], by first | exact hB | exact hB.drew | exact below_drewN hB _⟩
      case measure => simp [intOf]; omega
    · obtain rfl : k = L.length := by omega
      rw [List.take_length]
      have hb := hb1.trans (hB.mono hb1.size)
      obtain ⟨n, hn⟩ : ∃ n, longH L = n := ⟨_, rfl⟩
      rw [hn]
      have HN := Lib.hid hn
      clear hB hn
      go_wp2
      go_ret
      exact ⟨by rw [HN.out]; rfl, hb⟩

set_option maxHeartbeats 2000000 in
set_option maxRecDepth 20000 in
theorem refFits_any {w : World} {v : Value} {l : List Int} (hv : IntsV w v l) (n : Int) :
    Calls Try.prog 15 #[v, .int .i64 n] w fun r w' => r = .returned (optV (fitsO l n)) ∧ Below w.heap.size w w' := by
  obtain ⟨W0, hW0, e0, e1, e2⟩ := allocs1 w (.cells #[.int .i64 0, .int .i64 0] 30)
  have m1 := refAll_any (hv.below e0)
  have hlen := allL_len l
  have hmem := fun k => hole_mem (l := l) k
  rw [fitsO_eq]
  obtain ⟨a, cap, rfl⟩ := hv.slice
  generalize allE l = e at m1
  generalize allL l = L at *
  have HM := Lib.hid hmem
  have HW := Lib.hid hW0
  clear hv hmem hW0
  go_enter Try.func15, Try.ntmps15
  go_wp2_with fail
  rw [HW.out]
  refine m1.mono ?_
  rintro r w1 ⟨⟨v1, rfl, h1⟩, hb1⟩
  obtain ⟨a1, cap1, rfl⟩ := h1.slice
  have b1 := (hb1.block _ (block_lt e2)).trans e2
  have hb := e0.trans (hb1.mono e0.size)
  have hs : w.heap.size < w1.heap.size := block_lt b1
  have H1 := Lib.hid h1
  have B1 := Lib.hid b1
  clear m1 h1 e0 e1 e2 hb1 HW b1
  go_wp2
  go_loopw [8] (fun i W => ∃ k : Nat, k ≤ L.length ∧ i = .int .i64 k ∧ L.find? (longB n) = (L.drop k).find? (longB n) ∧ Below w1.heap.size w1 W) (fun i _ => L.length - (intOf i).toNat)
  case atStart => exact ⟨0, Nat.zero_le _, rfl, rfl, Below.refl _ _⟩
  case round =>
    obtain ⟨k, hk, rfl, hfd, hB⟩ := hrel
    have HFD := Lib.hid hfd
    clear hfd
    by_cases hlt : k < L.length
    · obtain ⟨b, rfl, c1, c2⟩ := H1.out.at_ k hlt
      have d1 := (hB.cell (p := ⟨b, k * 2, none⟩) (cell_lt c1)).trans c1
      have d2 := (hB.cell (p := ⟨b, k * 2 + 1, none⟩) (cell_lt c2)).trans c2
      have hm := HM.out k hlt
      have hdr : L.find? (longB n) = (bif longB n (L.getD k (0, 0)) then some (L.getD k (0, 0)) else (L.drop (k + 1)).find? (longB n)) := by
        have e : L.getD k (0, 0) = L[k] := by simp [List.getD, hlt]
        rw [HFD.out, List.drop_eq_getElem_cons hlt, List.find?_cons, e]
        cases longB n L[k] <;> rfl
      generalize L.getD k (0, 0) = z at *
      obtain ⟨x1, x2⟩ := z
      simp only at hm d1 d2
      have HDR := Lib.hid hdr
      clear hdr HFD c1 c2
      have hBd := fun q => below_drewN hB q
      have i1 : (0 : Int) ≤ (k : Int) := by omega
      have i2 : (k : Int) < (L.length : Int) := by omega
      have i3 : IntKind.i64.wrap ((x2 : Int) - (x1 : Int)) = (x2 : Int) - (x1 : Int) := IntWalk.i64_in _ (by omega)
      by_cases hA : 1 ≤ n
      · have gA : decide (1 ≤ n) = true := decide_eq_true hA
        by_cases hC : n ≤ (x2 : Int) - x1
        · have gC : decide (n ≤ (x2 : Int) - (x1 : Int)) = true := decide_eq_true hC
          have hfin : L.find? (longB n) = some (x1, x2) := by
            rw [HDR.out, show longB n (x1, x2) = true by unfold longB; rw [decide_eq_true hA]; simpa using hC]; rfl
          have HFI := Lib.hid hfin
          have b3 := (hB.block _ hs).trans B1.out
          have c0 := cells_cell (i := 0) b3 (v := .int .i64 0) rfl
          have c1 := cells_cell (i := 1) b3 (v := .int .i64 0) rfl
          have c2 := cells_free (i := 0) b3
          have c3 := cells_free (i := 1) b3
          have e3 := heap_setCell_same (i := 1) (.int .i64 (x2 : Int)) (heap_setCell_same (i := 0) (.int .i64 (x1 : Int)) b3)
          have hbb := ((hb.trans (hB.mono hb.size)).setCell (p := ⟨w.heap.size, 0, none⟩) (Nat.le_refl _) (.int .i64 (x1 : Int))).setCell (p := ⟨w.heap.size, 1, none⟩) (Nat.le_refl _) (.int .i64 (x2 : Int))
          have E3 := Lib.hid e3
          have HBB := Lib.hid hbb
          clear hfin HDR hA hC b3 e3 hbb hB hBd
          go_wp2
          go_quiet (fail)
          clear i3
          go_wp2
          exact bodyPost_ret (results_hole_tmp rfl _ _ w.heap.size x1 x2 rfl E3.out) rfl ⟨by rw [HFI.out]; rfl, below_drewN HBB.out _⟩
        · have gC : decide (n ≤ (x2 : Int) - (x1 : Int)) = false := decide_eq_false (by omega)
          have hno : L.find? (longB n) = (L.drop (k + 1)).find? (longB n) := by
            rw [HDR.out, show longB n (x1, x2) = false by unfold longB; rw [decide_eq_true hA]; simpa using hC]; rfl
          have HNO := Lib.hid hno
          clear hno HDR hA hC
          go_wp2
          go_quiet (fail)
          clear i1 i2 i3
          go_wp2
          go_round
          case rel => exact ⟨k + 1, by omega, by go_num, HNO.out, by first | exact hB | exact hB.drew | exact below_drewN hB _⟩
          case measure => simp [intOf]; omega
      · have gA : decide (1 ≤ n) = false := decide_eq_false (by omega)
        have hno : L.find? (longB n) = (L.drop (k + 1)).find? (longB n) := by
          rw [HDR.out, show longB n (x1, x2) = false by unfold longB; rw [gA]; rfl]; rfl
        have HNO := Lib.hid hno
        clear hno HDR hA
        go_wp2
        go_quiet (fail)
        clear i1 i2 i3
        go_wp2
        go_round
        case rel => exact ⟨k + 1, by omega, by go_num, HNO.out, by first | exact hB | exact hB.drew | exact below_drewN hB _⟩
        case measure => simp [intOf]; omega
    · obtain rfl : k = L.length := by omega
      have hfin : L.find? (longB n) = none := by rw [HFD.out, List.drop_length]; rfl
      have HFI := Lib.hid hfin
      have b3 := (hB.block _ hs).trans B1.out
      have c0 := cells_cell (i := 0) b3 (v := .int .i64 0) rfl
      have c1 := cells_cell (i := 1) b3 (v := .int .i64 0) rfl
      have c2 := cells_free (i := 0) b3
      have c3 := cells_free (i := 1) b3
      have e3 := heap_setCell_same (i := 1) (.int .i64 0) (heap_setCell_same (i := 0) (.int .i64 0) b3)
      have hbb := ((hb.trans (hB.mono hb.size)).setCell (p := ⟨w.heap.size, 0, none⟩) (Nat.le_refl _) (.int .i64 0)).setCell (p := ⟨w.heap.size, 1, none⟩) (Nat.le_refl _) (.int .i64 0)
      have E3 := Lib.hid e3
      have HBB := Lib.hid hbb
      clear hfin HFD b3 e3 hbb hB
      go_wp2
      exact bodyPost_ret (results_hole_tmp rfl _ _ w.heap.size 0 0 rfl E3.out) rfl ⟨by rw [HFI.out]; rfl, HBB.out⟩

def zeros33A : Array Value := Array.replicate 33 (.int .i64 0)
theorem run_make33 (w : World) : (Instr.makeSlice 22 (.int .i64 33) (.int .i64 33)).run Try.prog w = .ok (.slice (some ⟨w.heap.size, 0, none⟩) 33 33) (w.alloc (.cells zeros33A 3)) := by kernel_rfl

set_option maxHeartbeats 2000000 in
set_option maxRecDepth 20000 in
theorem refLengths_any {w : World} {v : Value} {l : List Int} (hv : IntsV w v l) :
    Calls Try.prog 17 #[v] w fun r w' => (∃ v', r = .returned (.tuple #[v', .int .i64 (allE l)]) ∧ IntsV w' v' (lenE l)) ∧ Below w.heap.size w w' := by
  have C := refAll_any hv
  obtain ⟨a, cap, rfl⟩ := hv.slice
  have hlen := allL_len l
  have hmem := fun k => hole_mem (l := l) k
  cases hr : rightT l with
  | false =>
    have e : allE l = 70 := by unfold allE; rw [hr]; rfl
    have e2 : lenE l = [] := by unfold lenE; rw [hr]; rfl
    rw [e] at C ⊢
    rw [e2]
    clear hv e e2 hr hmem
    go_enter Try.func17, Try.ntmps17
    go_wp2_with fail
    refine C.mono ?_
    rintro r w1 ⟨⟨v1, rfl, h1⟩, hb1⟩
    obtain ⟨a', cap', rfl⟩ := h1.slice
    clear h1 C
    go_wp2
    go_ret2
    exact ⟨⟨_, rfl, .empty none 0⟩, hb1⟩
  | true =>
    have e : allE l = 0 := by unfold allE; rw [hr]; rfl
    have e2 : lenE l = lensL (allL l) := by unfold lenE allL; rw [hr]; rfl
    rw [e] at C ⊢
    rw [e2]
    generalize allL l = L at *
    have HM := Lib.hid hmem
    have hm := run_make33
    clear hv e e2 hr hmem
    go_enter Try.func17, Try.ntmps17
    go_wp2_with fail
    refine C.mono ?_
    rintro r w1 ⟨⟨v1, rfl, h1⟩, hb1⟩
    obtain ⟨a', cap', rfl⟩ := h1.slice
    obtain ⟨w2, hw2, e0, e1, e2⟩ := allocs1 w1 (.cells zeros33A 3)
    have hA := Arr.made (n := 33) (cap := 33) (f := fun _ => 0) e2 rfl (fun j hj => by simp [zeros33A, hj]) (by decide) (by decide)
    have H1 := Lib.hid h1
    clear C h1 e1 e2
    go_wp2
    go_loopw [7] (fun i W => ∃ (k : Nat) (f : Nat → Int), k ≤ L.length ∧ i = .int .i64 k ∧ Arr W w1.heap.size 33 3 33 f ∧ (∀ j, j < 33 → f j = lensT (L.take k) j) ∧ Below w1.heap.size w1 W) (fun i _ => L.length - (intOf i).toNat)
    case atStart => exact ⟨0, _, Nat.zero_le _, rfl, hA, fun j _ => rfl, e0⟩
    case round =>
      obtain ⟨k, f, hk, rfl, hA1, hf, hB⟩ := hrel
      have HF := Lib.hid hf
      clear hf hm hA
      by_cases hlt : k < L.length
      · obtain ⟨b, rfl, c1, c2⟩ := H1.out.at_ k hlt
        have d1 := (hB.cell (p := ⟨b, k * 2, none⟩) (cell_lt c1)).trans c1
        have d2 := (hB.cell (p := ⟨b, k * 2 + 1, none⟩) (cell_lt c2)).trans c2
        have hx := HM.out k hlt
        have hsu := fun j => lensT_succ hlt j
        generalize L.getD k (0, 0) = x at *
        obtain ⟨x1, x2⟩ := x
        simp only at hx hsu d1 d2
        obtain ⟨d, hd⟩ : ∃ d, x2 - x1 = d := ⟨_, rfl⟩
        have hdi : (x2 : Int) - x1 = (d : Int) := by omega
        rw [hd] at hsu
        have hd33 : d < 33 := by omega
        have HSu := Lib.hid hsu
        clear hsu c1 c2
        have c3 := hA1.cell d hd33
        have c4 := hA1.free d
        have hq : 0 ≤ f d ∧ f d ≤ 33 := by
          rw [HF.out d hd33]
          unfold lensT
          have h1 := List.countP_le_length (p := fun h : Nat × Nat => h.2 - h.1 == d) (l := L.take k)
          rw [List.length_take] at h1
          omega
        have hS := hA1.set d (f d + 1) hd33
        have hB' := hB.setCell (p := ⟨w1.heap.size, d, none⟩) (Nat.le_refl _) (.int .i64 (f d + 1))
        have HS := Lib.hid hS
        have HB' := Lib.hid hB'
        have i1 : (0 : Int) ≤ (k : Int) := by omega
        have i2 : (k : Int) < (L.length : Int) := by omega
        have i5 : (0 : Int) ≤ (d : Int) := by omega
        have i6 : (d : Int) < 33 := by omega
        have i4 : IntKind.i64.wrap (f d + 1) = f d + 1 := IntWalk.i64_in _ (by omega)
        have i3 : IntKind.i64.wrap ((x2 : Int) - (x1 : Int)) = (d : Int) := by rw [IntWalk.i64_in _ (by omega)]; exact hdi
        clear hA1 hB hd hS hB' hx hdi hq
        go_wp2
        refine wp_region_still_tail 16 (by kernel_rfl) (by kernel_rfl) ?_
        simp only [List.take_succ_cons, List.take_zero, List.drop_succ_cons, List.drop_zero]
        repeat still_step
        refine wpStill_nil ?_
        change wpList _ _ _ _ _ wr.drew
        go_wp2
        go_round
        case rel =>
          refine ⟨k + 1, _, by omega, by go_num, ⟨HS.out.ex, HS.out.le, HS.out.mx⟩, fun j hj => ?_, HB'.out.drew⟩
          rw [HSu.out j]
          by_cases e : j = d
          · rw [if_pos e, if_pos e.symm, e, HF.out d hd33]
          · rw [if_neg e, if_neg (fun h => e h.symm), HF.out j hj]; omega
        case measure => simp [intOf]; omega
      · obtain rfl : k = L.length := by omega
        go_wp2
        go_ret2
        refine ⟨⟨_, rfl, ?_⟩, hb1.trans (hB.mono hb1.size)⟩
        refine hA1.ints _ (by simp [lensL]) fun j hj => ?_
        rw [HF.out j hj, List.take_length]
        exact (getD_map_r8 (lensT L) 33 j hj).symm
end Go.Proofs.Ytmgllljilnkkcaa

/- Layer marks: copies of lists, a new table, the table of two. -/
import Derived.Test.YteilnojniilmaaaDoorM3
import Derived.Lib.SliceRun
import Derived.Lib.Walk
import Derived.Test.YteilnojniilmaaaDoorMx
namespace Go.Proofs.YteilnojniilmaaaDoor
open Go Go.RowKit Go.Shelf Go.Lib
attribute [local go_sem ↓] Go.wp_at_zero Go.wp_at_succ

theorem clone_any {w : World} {b off cap : Nat} {l : List Int} (hb : l.length ≤ 1000) (hc : ∀ i, i < l.length → w.cell? ⟨b, off + i, none⟩ = some (.int .i64 (l.getD i 0))) :
    Calls Tryd.prog 29 #[.slice (some ⟨b, off, none⟩) l.length cap] w fun r w' => (∃ v', r = .returned v' ∧ w'.ownsRow w.heap.size 3 1 v' l.length (l.map fun x : Int => Value.int .i64 x)) ∧ Below w.heap.size w w' := by
  obtain ⟨i0, hi, hz0, hz1, hz2⟩ := info_parts intInfo
  have q22 : ∀ (w : World) (a : Option Addr) (n c n' c' : Nat), (binOp .eql 22 (.slice a n c) (.slice none n' c')).run Tryd.prog w = .ok (.bool a.isNone) w := fun w a n c n' c' => Lib.run_eql_slice_nil w _ _ a n c n' c' Tryd.underlying22
  have A : Hid (∀ i, i < l.length → w.cell? ⟨b, off + i, none⟩ = some (.int .i64 (l.getD i 0))) := hc
  clear hc
  go_enter Tryd.func29, Tryd.ntmps29
  go_wp2_with (at_builtin; refine wpList_append_own _ rfl _ _ 22 rfl w.heap.size 3 i0 (.int .i64 0) 1 8 Tryd.underlying22 hi hz0 hz1 hz2 rfl (by decide) _ _ _ rfl (World.ownsRow_made w #[] 0 (Nat.le_refl _) (Nat.zero_le _) rfl) ⟨b, off, none⟩ l.length cap (l.map fun x : Int => Value.int .i64 x) rfl ?qc1 ?qc2 ?qc3 ?qc4 ?qc5 ?qc6 ?_)
  case qc1 => simp
  case qc2 =>
    intro j u hj
    have hjn : j < l.length := by
      have := (List.getElem?_eq_some_iff.1 hj).1
      simpa using this
    rw [Addr.add_lit]
    refine Lib.cell?_alloc_some _ ?_
    rw [A.out j hjn]
    rw [← hj]
    simp [List.getD, List.getElem?_eq_getElem hjn]
  case qc3 => intro u hu; obtain ⟨x, _, rfl⟩ := List.mem_map.1 hu; rfl
  case qc4 => unfold maxLen; omega
  case qc5 => omega
  case qc6 => simp
  intro v' w1 hown hgrow hnil
  go_wp2
  go_ret
  refine ⟨⟨v', rfl, by simpa using hown⟩, ?_⟩
  exact ((Below.refl _ w).alloc (Nat.le_refl _) _).grown hgrow (by simp) (by intro k hk; simp [Value.ownBlock] at hk; omega)

def zeros32 : Array Value := Array.replicate 32 (.int .i64 0)
theorem run_make32 (w : World) : (Instr.makeSlice 22 (.int .i64 32) (.int .i64 32)).run Tryd.prog w = .ok (.slice (some ⟨w.heap.size, 0, none⟩) 32 32) (w.alloc (.cells zeros32 3)) := by kernel_rfl
theorem make_any (w : World) : Calls Tryd.prog 18 #[] w fun r w' => (∃ v, r = .returned v ∧ IntsV w' v (List.replicate 32 0)) ∧ Below w.heap.size w w' := by
  have hm := run_make32
  go_enter Tryd.func18, Tryd.ntmps18
  go_wp2
  obtain ⟨W0, hW0, e0, e1, e2⟩ := allocs1 w (.cells zeros32 3)
  rw [hW0]
  clear hm hW0
  go_ret
  refine ⟨⟨_, rfl, ?_⟩, e0⟩
  refine (Arr.made (n := 32) (cap := 32) (f := fun _ => 0) e2 rfl ?_ (by decide) (by decide)).ints _ rfl ?_
  · intro j hj
    simp [zeros32, hj]
  · intro j hj
    rw [List.getD_eq_getElem?_getD, List.getElem?_replicate, if_pos hj]; rfl

def mergeT (l m : List Int) : List Int := (List.range 32).map fun i => max (l.getD i 0) (m.getD i 0)
theorem getD_map_range (f : Nat → Int) (n j : Nat) (hj : j < n) : ((List.range n).map f).getD j 0 = f j := by
  simp [List.getD, hj]

attribute [local go_sem ↓] run_max_int run_min_int
set_option maxHeartbeats 1000000 in
theorem merge_yes {w : World} {v u : Value} {l m : List Int} (hv : IntsV w v l) (hu : IntsV w u m) (hl : rightT l = true) (hm : rightT m = true) :
    Calls Tryd.prog 20 #[v, u] w fun r w' => (∃ v', r = .returned (.tuple #[v', .int .i64 0]) ∧ IntsV w' v' (mergeT l m)) ∧ Below w.heap.size w w' := by
  have h32 : l.length = 32 := by unfold rightT at hl; simp at hl; exact hl.1
  have m32 : m.length = 32 := by unfold rightT at hm; simp at hm; exact hm.1
  have R1 := right_any7 hv
  have R2 := right_any7 hu
  rw [hl] at R1
  rw [hm] at R2
  cases hv with
  | empty a cap => simp at h32
  | some b off cap l hl1 hl2 hl3 =>
    cases hu with
    | empty a cap => simp at m32
    | some b' off' cap' m hm1 hm2 hm3 =>
      have C := clone_any (cap := cap) (by omega) hl3
      rw [h32] at C R1 
      rw [h32] at hl1
      rw [m32] at R2
      rw [h32, m32]
      have HC := Lib.hid hl3
      clear hl3
      go_enter Tryd.func20, Tryd.ntmps20
      go_wp2_with fail
      refine R1.mono ?_
      rintro r w' ⟨rfl, rfl⟩
      go_wp2_with fail
      refine R2.mono ?_
      rintro r w' ⟨rfl, rfl⟩
      go_wp2_with fail
      refine C.mono ?_
      rintro r w1 ⟨⟨v1, rfl, hrow⟩, hb⟩
      obtain ⟨g, c1, rfl, hg, hA⟩ := Arr.of_row (by rw [h32]; exact hrow) (by omega)
      rw [h32] at hA
      clear R1 R2 C hrow
      rw [h32]
      go_wp2
      go_loopw [23] (fun i W => ∃ (k : Nat) (f : Nat → Int), k ≤ 32 ∧ i = .int .i64 k ∧ Arr W g c1 3 32 f ∧ (∀ j, j < k → f j = max (l.getD j 0) (m.getD j 0)) ∧ (∀ j, k ≤ j → j < 32 → f j = l.getD j 0) ∧ Below w.heap.size w W) (fun i _ => 32 - (RowKit.intOf i).toNat)
      case atStart => exact ⟨0, _, Nat.zero_le _, rfl, hA, fun j hj => by omega, fun j _ _ => rfl, hb⟩
      case round =>
        obtain ⟨k, f, hk, rfl, hA, hf1, hf2, hB⟩ := hrel
        have F1 := Lib.hid hf1
        have F2 := Lib.hid hf2
        clear hf1
        by_cases hlt : k < 32
        · have c1 := (hB.cell (p := ⟨b', off' + k, none⟩) (cell_lt (hm3 k (by omega)))).trans (hm3 k (by omega))
          have c2 := hA.cell k hlt
          have c3 := hA.free k
          rw [hf2 k (Nat.le_refl _) hlt] at c2
          have HM := Lib.hid hm3
          clear hm3 hf2
          generalize hx : l.getD k 0 = x at c2
          generalize hy : m.getD k 0 = y at c1
          have HX := Lib.hid hx
          have HY := Lib.hid hy
          clear hx hy
          go_wp2
          have hS := hA.set k (max x y) hlt
          have hB' := hB.setCell (p := ⟨g, k, none⟩) hg (.int .i64 (max x y))
          go_round
          case rel =>
            refine ⟨k + 1, _, by omega, by go_num, hS, fun j hj => ?_, fun j h1 h2 => ?_, hB'⟩
            · by_cases e : j = k
              · rw [if_pos e, e, HX.out, HY.out]
              · rw [if_neg e]; exact F1.out j (by omega)
            · rw [if_neg (by omega)]; exact F2.out j (by omega) h2
          case measure => simp [RowKit.intOf]; omega
        · obtain rfl : k = 32 := by omega
          clear hm3 hf2
          go_wp2
          go_ret2
          refine ⟨⟨_, rfl, ?_⟩, hB⟩
          refine hA.ints _ (by simp [mergeT]) fun j hj => ?_
          rw [F1.out j hj]
          exact (getD_map_range (fun i => max (l.getD i 0) (m.getD i 0)) 32 j hj).symm
end Go.Proofs.YteilnojniilmaaaDoor

/- Layer addr: Split. -/
import Derived.Test.YtlfdfocjkdjhdaaDoorA3
import Derived.Test.YtlfdfocjkdjhdaaDoorRf
import Derived.Lib.Hide
namespace Go.Proofs.YtlfdfocjkdjhdaaDoor
open Go.RowKit Go.Shelf
attribute [local go_sem ↓] Go.wp_at_zero Go.wp_at_succ
attribute [local go_sem] Oper.semAt_some

theorem parts_any (a : Int) (w : World) : Calls Tryd.prog 32 #[.int .i64 a] w fun r w' => r = .returned (.func (.func 39) #[] #[.pointer (some ⟨w.heap.size, 0, none⟩)]) ∧ w.alloc (.cells #[.int .i64 a] 3) = w' := by
  go_enter Tryd.func32, Tryd.ntmps32
  go_wp2
  go_ret
  exact ⟨rfl, rfl⟩

/-- What lies in memory between two rounds: the place, the number that is left, the loop's own two blocks. -/
structure Sp (w : World) (D : Nat) (o : Obj) (cs : Array Value) (v : Int) (W : World) : Prop where
  below : Below w.heap.size w W
  le : w.heap.size + 2 ≤ D
  place : W.heap[w.heap.size]? = some (.cells cs 36 (0, 0))
  box : W.heap[w.heap.size + 1]? = some (.cells #[.int .i64 v] 3 (0, 0))
  marks : W.heap[D]? = some (.deferred (some []))
  loop : W.heap[D + 1]? = some o

theorem Sp.put {w : World} {D : Nat} {o : Obj} {cs : Array Value} {v : Int} {W : World} (h : Sp w D o cs v W) (o' : Obj) : Sp w D o' cs v (W.putObj (D + 1) o') := by
  have hl := h.le
  have hlt := block_lt h.loop
  exact ⟨h.below.trans ((Below.refl _ W).grown (grownBy_putObj' W (D + 1) o') h.below.size (fun k e => by cases e; omega)), hl,
    (World.putObj_heap_other (by omega)).trans h.place, (World.putObj_heap_other (by omega)).trans h.box, (World.putObj_heap_other (by omega)).trans h.marks, World.putObj_heap_same hlt⟩
theorem Sp.setPlace {w : World} {D : Nat} {o : Obj} {cs : Array Value} {v : Int} {W : World} (h : Sp w D o cs v W) (i : Nat) (x : Value) : Sp w D o (cs.setIfInBounds i x) v (W.setCell ⟨w.heap.size, i, none⟩ x) := by
  have hl := h.le
  have hs : ∀ k, k ≠ w.heap.size → (W.setCell ⟨w.heap.size, i, none⟩ x).heap[k]? = W.heap[k]? := fun k hk => Below.heap_setCell W _ x k hk
  exact ⟨h.below.setCell (p := ⟨w.heap.size, i, none⟩) (Nat.le_refl _) x, hl, heap_setCell_same x h.place, (hs _ (by omega)).trans h.box, (hs _ (by omega)).trans h.marks, (hs _ (by omega)).trans h.loop⟩
theorem Sp.setBox {w : World} {D : Nat} {o : Obj} {cs : Array Value} {v : Int} {W : World} (h : Sp w D o cs v W) (x : Int) : Sp w D o cs x (W.setCell ⟨w.heap.size + 1, 0, none⟩ (.int .i64 x)) := by
  have hl := h.le
  have hs : ∀ k, k ≠ w.heap.size + 1 → (W.setCell ⟨w.heap.size + 1, 0, none⟩ (.int .i64 x)).heap[k]? = W.heap[k]? := fun k hk => Below.heap_setCell W _ _ k hk
  exact ⟨h.below.setCell (p := ⟨w.heap.size + 1, 0, none⟩) (by simp) _, hl, (hs _ (by omega)).trans h.place, heap_setCell_same (i := 0) _ h.box, (hs _ (by omega)).trans h.marks, (hs _ (by omega)).trans h.loop⟩

set_option maxHeartbeats 1000000 in
theorem split_yes {E : Env} {w : World} (h : Glob E w) (a : Int) (h0 : 0 ≤ a) (h1 : a < 131072) :
    Calls Tryd.prog 12 #[.int .i64 a] w fun r w' => r = .returned (.tuple #[.int .i64 (a / 4096), .int .i64 (a % 4096 / 128), .int .i64 (a % 128), .int .i64 0]) ∧ Below w.heap.size w w' := by
  have k0 : w.cell? ⟨0, 0, none⟩ = some (.iface 66 (.pointer (some E.aAddr))) := h.cAddr
  have k1 : (w.alloc (.cells #[.int .i64 0, .int .i64 0, .int .i64 0] 36)).cell? ⟨0, 0, none⟩ = some (.iface 66 (.pointer (some E.aAddr))) := (h.below ((Below.refl _ _).alloc (Nat.le_refl _) _)).cAddr
  have hr : rightB a = true := by simp [rightB]; omega
  have R1 := right_any a
  rw [hr] at R1
  have hR1 := Lib.hid R1
  clear R1
  refine calls_of_wp_marks Tryd.func12 rfl ?_
  simp only [Tryd.ntmps12, List.size_toArray, List.length_cons, List.length_nil, Nat.reduceAdd, Nat.reduceSub, Array.replicate_succ, Array.replicate_zero, List.push_toArray, List.append_toArray, List.nil_append, List.cons_append]
  go_wp2
  go_region_held3 (fun w' => w'.cell? ⟨0, 0, none⟩ = some (.iface 66 (.pointer (some E.aAddr)))) (first | assumption | exact k1)
      (first | (go_at_call 16; refine (hR1.out _).mono ?_; rintro e w' ⟨rfl, rfl⟩) | (go_at_call 30; refine (unless_true _ _).mono ?_; rintro e w' ⟨rfl, rfl⟩))
  go_wp2_with (go_at_call 32; refine (parts_any _ _).mono ?_; rintro e w' ⟨rfl, rfl⟩)
  clear hR1 k1 k0 hr
  have e0 : ((w.alloc (.cells #[.int .i64 0, .int .i64 0, .int .i64 0] 36)).alloc (.cells #[.int .i64 a] 3)).drew.heap[w.heap.size]? = some (.cells #[.int .i64 0, .int .i64 0, .int .i64 0] 36 (0, 0)) :=
    (Below.heap_alloc _ _ _ (by simp)).trans (World.alloc_heap_new w _)
  have e1 : ((w.alloc (.cells #[.int .i64 0, .int .i64 0, .int .i64 0] 36)).alloc (.cells #[.int .i64 a] 3)).drew.heap[w.heap.size + 1]? = some (.cells #[.int .i64 a] 3 (0, 0)) := by
    have := World.alloc_heap_new (w.alloc (.cells #[.int .i64 0, .int .i64 0, .int .i64 0] 36)) (.cells #[.int .i64 a] 3); rwa [World.size_alloc] at this
  have e2 : Below w.heap.size w ((w.alloc (.cells #[.int .i64 0, .int .i64 0, .int .i64 0] 36)).alloc (.cells #[.int .i64 a] 3)).drew := (((Below.refl _ w).alloc (Nat.le_refl _) _).alloc (by simp) _).drew
  have e3 : ((w.alloc (.cells #[.int .i64 0, .int .i64 0, .int .i64 0] 36)).alloc (.cells #[.int .i64 a] 3)).drew.heap.size = w.heap.size + 2 := by simp
  generalize ((w.alloc (.cells #[.int .i64 0, .int .i64 0, .int .i64 0] 36)).alloc (.cells #[.int .i64 a] 3)).drew = W0 at *
  refine rf_wp (gf := 39) (lb := #[.pointer (some ⟨w.heap.size + 1, 0, none⟩)]) rfl (enters_of Tryd.func39 (by kernel_rfl) rfl) ?_
  intro D L W1 hD hRf hB1 hsz hK hL
  have hS : Sp w D (L .ready none) #[.int .i64 0, .int .i64 0, .int .i64 0] a W1 :=
    ⟨e2.trans (hB1.mono e2.size), by omega, (hB1.block _ (by omega)).trans e0, (hB1.block _ (by omega)).trans e1, hK, hL⟩
  clear e0 e1 e2 e3 hD hB1 hsz hK hL
  have hround : ∀ (k : Nat) (i : Int) (q : Int) (cs : Array Value) (v : Int) (W : World), i = (k : Int) → k < 3 → cs.size = 3 → Sp w D (L .ready none) cs v W →
      YieldAt Fence.wide 8 Tryd.prog (D + 1) #[.int .i64 i, .int .i64 q] W fun e W' => e = .returned (.bool true) ∧ Sp w D (L .ready none) (cs.setIfInBounds k (.int .i64 q)) v W' := by
    rintro k _ q cs v W rfl hk hcs hs
    refine hRf.round _ _ _ rfl hs.loop ?_
    gi_wp2
    refine ⟨hs.loop, ?_⟩
    have hs2 := hs.put (L .busy none)
    have hc := cells_cell (i := k) hs2.place (v := cs[k]) (by simp)
    have hf := cells_free (i := k) hs2.place
    generalize W.putObj (D + 1) (L .busy none) = W2 at *
    gi_wp2
    have hs3 := hs2.setPlace k (.int .i64 q)
    exact ⟨hs3.loop, rfl, hs3.put _⟩
  have HR := Lib.hid hround
  clear hround hRf
  refine callsIn_of_wp Tryd.func39 rfl trivial ?_ rfl
  simp only [Tryd.ntmps39, List.size_toArray, List.length_cons, List.length_nil, Nat.reduceAdd, Nat.reduceSub, Array.replicate_succ, Array.replicate_zero, List.push_toArray, List.append_toArray, List.nil_append, List.cons_append]
  gi_wp2
  refine wpIn_scope_straight ?_
  gi_wp2
  refine wpIn_label ?_
  gi_wp2
  have i0 : ∀ w, (Instr.index 35 (.agg #[.int .i64 4096, .int .i64 128, .int .i64 1]) (.int .i64 0)).run Tryd.prog w = .ok (.int .i64 4096) w := fun _ => by kernel_rfl
  have i1 : ∀ w, (Instr.index 35 (.agg #[.int .i64 4096, .int .i64 128, .int .i64 1]) (.int .i64 1)).run Tryd.prog w = .ok (.int .i64 128) w := fun _ => by kernel_rfl
  have i2 : ∀ w, (Instr.index 35 (.agg #[.int .i64 4096, .int .i64 128, .int .i64 1]) (.int .i64 2)).run Tryd.prog w = .ok (.int .i64 1) w := fun _ => by kernel_rfl
  refine wpIn_loop_rounds 4 ?_
  rw [roundsIn_succ]
  have c1 := cells_cell (i := 0) hS.box (v := .int .i64 a) rfl
  obtain ⟨fn1, tm1, as1, bo1, hy1, hR1⟩ := HR.out 0 0 (a / 4096) _ _ _ rfl (by omega) rfl hS
  gi_wp2
  clear c1 hy1 hS
  refine hR1.mono ?_
  clear hR1
  rintro e W2 ⟨rfl, hS⟩
  have c1 := cells_cell (i := 0) hS.box (v := .int .i64 a) rfl
  have f1 := cells_free (i := 0) hS.box
  gi_wp2
  have hS2 := hS.setBox (a % 4096)
  clear c1 f1 hS
  generalize W2.setCell ⟨w.heap.size + 1, 0, none⟩ (.int .i64 (a % 4096)) = W3 at *
  clear W2 
  rw [roundsIn_succ]
  have c1 := cells_cell (i := 0) hS2.box (v := .int .i64 (a % 4096)) rfl
  obtain ⟨fn1, tm1, as1, bo1, hy1, hR1⟩ := HR.out 1 1 (a % 4096 / 128) _ _ _ rfl (by omega) rfl hS2
  gi_wp2
  clear c1 hy1 hS2
  refine hR1.mono ?_
  clear hR1
  rintro e W2 ⟨rfl, hS⟩
  have c1 := cells_cell (i := 0) hS.box (v := .int .i64 (a % 4096)) rfl
  have f1 := cells_free (i := 0) hS.box
  gi_wp2
  have hS2 := hS.setBox (a % 128)
  clear c1 f1 hS
  generalize W2.setCell ⟨w.heap.size + 1, 0, none⟩ (.int .i64 (a % 128)) = W3 at *
  clear W2
  rw [roundsIn_succ]
  have c1 := cells_cell (i := 0) hS2.box (v := .int .i64 (a % 128)) rfl
  obtain ⟨fn1, tm1, as1, bo1, hy1, hR1⟩ := HR.out 2 2 (a % 128) _ _ _ rfl (by omega) rfl hS2
  gi_wp2
  clear c1 hy1 hS2
  refine hR1.mono ?_
  clear hR1
  rintro e W2 ⟨rfl, hS⟩
  have c1 := cells_cell (i := 0) hS.box (v := .int .i64 (a % 128)) rfl
  have f1 := cells_free (i := 0) hS.box
  gi_wp2
  have hS2 := hS.setBox 0
  clear c1 f1 hS
  rw [roundsIn_succ]
  gi_wp2
  generalize W2.setCell _ _ = W3 at *
  rw [Exit.noGoto_normal]
  go_end0
  refine ⟨⟨_, rfl⟩, hS2.marks, .inl ⟨hS2.loop, ?_⟩⟩
  have hS3 := hS2.put (L .exhausted none)
  clear hS2 HR i0 i1 i2
  generalize W3.putObj (D + 1) (L .exhausted none) = W4 at *
  clear W3 W2
  have c0 := cells_cell (i := 0) hS3.place (v := .int .i64 (a / 4096)) rfl
  have c1 := cells_cell (i := 1) hS3.place (v := .int .i64 (a % 4096 / 128)) rfl
  have c2 := cells_cell (i := 2) hS3.place (v := .int .i64 (a % 128)) rfl
  go_wp2
  go_quiet (fail)
  go_wp2
  refine bodyPostR_ret (D := D) hS3.marks (results_tmp4 rfl _ _ _) ⟨rfl, ?_⟩
  exact below_putObj (below_drewN hS3.below _) _ (o := .deferred (some [])) hS3.marks (by have := hS3.le; omega)

set_option maxHeartbeats 1000000 in
theorem split_no {E : Env} {w : World} (h : Glob E w) (a : Int) (hr : rightB a = false) :
    Calls Tryd.prog 12 #[.int .i64 a] w fun r w' => r = .returned (.tuple #[.int .i64 0, .int .i64 0, .int .i64 0, .int .i64 10]) ∧ Below w.heap.size w w' := by
  have k1 : (w.alloc (.cells #[.int .i64 0, .int .i64 0, .int .i64 0] 36)).cell? ⟨0, 0, none⟩ = some (.iface 66 (.pointer (some E.aAddr))) := (h.below ((Below.refl _ _).alloc (Nat.le_refl _) _)).cAddr
  have R1 := right_any a
  rw [hr] at R1
  have hR1 := Lib.hid R1
  clear R1
  refine calls_of_wp_marks Tryd.func12 rfl ?_
  simp only [Tryd.ntmps12, List.size_toArray, List.length_cons, List.length_nil, Nat.reduceAdd, Nat.reduceSub, Array.replicate_succ, Array.replicate_zero, List.push_toArray, List.append_toArray, List.nil_append, List.cons_append]
  go_wp2
  go_region_held3 (fun w' => w'.cell? ⟨0, 0, none⟩ = some (.iface 66 (.pointer (some E.aAddr)))) (first | assumption | exact k1)
      (first | (go_at_call 16; refine (hR1.out _).mono ?_; rintro e w' ⟨rfl, rfl⟩) | (go_at_call 30; refine (unless_false _ _).mono ?_; rintro e w' ⟨rfl, rfl⟩))
  have hB := ((Below.refl _ w).alloc (Nat.le_refl _) (.cells #[.int .i64 0, .int .i64 0, .int .i64 0] 36)).drew
  have hG := h.below hB
  clear k1 hR1 h
  generalize (w.alloc (.cells #[.int .i64 0, .int .i64 0, .int .i64 0] 36)).drew = W0 at *
  go_wp2_with (go_at_call 31; refine (told_one hG .addr _ _).mono ?_; rintro e w' ⟨rfl, rfl⟩)
  exact bodyPostR_ret0 (results_tmp4 rfl _ _ _) ⟨rfl, hB.alloc hB.size _⟩
end Go.Proofs.YtlfdfocjkdjhdaaDoor

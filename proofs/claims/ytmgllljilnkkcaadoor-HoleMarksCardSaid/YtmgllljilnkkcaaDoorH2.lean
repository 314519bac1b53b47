/- Layer hole: a table's finder; its iterator. -/
import Derived.Test.YtmgllljilnkkcaaDoorH1
import Derived.Test.YtmgllljilnkkcaaDoorGf
import Derived.StillTailTactics
import Derived.Deep.DrawnRows
namespace Go.Proofs.YtmgllljilnkkcaaDoor
open Go Go.RowKit Go.Shelf
attribute [local go_sem ↓] Go.wp_at_zero Go.wp_at_succ
attribute [local go_sem ↓] run_max_int run_min_int
attribute [local go_sem] Oper.semAt_some

theorem wpListIn_store_row {F : Fence} {n : Nat} {P : Program} {ops : Array Oper} {rest : List Oper} {o : Oper} {a : Act} {w : World} {Q : Exit → Act → World → Prop} (hgd : o.guard = none) (ty : TypeId) (x y : Operand) (ho : o.op = .store ty x y)
    (g : Nat) (cells : Array Value) (hx : a.eval x = .pointer (some ⟨g, 0, none⟩)) (hy : a.eval y = .agg cells)
    (t : TypeId) (old : Array Value) (hg : w.heap[g]? = some (.cells old t (0, 0))) (hi : (P.info? ty).map (·.size) = some cells.size)
    (hold : old.size = cells.size) (h1 : cells.all (·.oneCell') = true)
    (h : wpListIn F n P ops Q rest (a.put o.dst undef) (w.setRow g cells)) : wpListIn F n P ops Q (o :: rest) a w := by
  refine wpListIn_plain hgd fun K hK' => ?_
  unfold Oper.wpIn
  refine ⟨?_, ?_⟩
  · simp [Oper.about, ho]
  · rw [Oper.semAt_plain F _ _ (by rw [ho]; intro c hc'; cases hc')]
    unfold execOp
    simp only [ho, hx, hy, Instr.storeAt, Instr.sureAddr, Sem.run_bind, Sem.run_pure, Result.andThen_ok, run_storeVar_row w g t ty old cells hg hi hold h1]
    exact hK' _ _ h
theorem wpListIn_load_row {F : Fence} {n : Nat} {P : Program} {ops : Array Oper} {rest : List Oper} {o : Oper} {a : Act} {w : World} {Q : Exit → Act → World → Prop} (hgd : o.guard = none) (ty : TypeId) (x : Operand) (ho : o.op = .load ty x)
    (g : Nat) (hx : a.eval x = .pointer (some ⟨g, 0, none⟩)) (t : TypeId) (cs : Array Value) (fr : Nat × Nat) (d : TypeDesc) (hg : w.heap[g]? = some (.cells cs t fr))
    (hu : P.underlying ty = some d) (hd : (match d with | .struct _ | .array _ _ => true | _ => false) = true) (hi : (P.info? ty).map (·.size) = some cs.size)
    (h : wpListIn F n P ops Q rest (a.put o.dst (.agg cs)) w) : wpListIn F n P ops Q (o :: rest) a w := by
  refine wpListIn_plain hgd fun K hK' => ?_
  unfold Oper.wpIn
  refine ⟨?_, ?_⟩
  · simp [Oper.about, ho]
  · rw [Oper.semAt_plain F _ _ (by rw [ho]; intro c hc'; cases hc')]
    unfold execOp
    simp only [ho, hx, Instr.loadAt, Instr.sureAddr, Sem.run_bind, Sem.run_pure, Result.andThen_ok, run_loadVar_row w g t ty cs fr d hg hu hd hi]
    exact hK' _ _ h

theorem IntsV.cut {w : World} {a : Option Addr} {cap : Nat} {l : List Int} (h : IntsV w (.slice a l.length cap) l) : IntsV w (.slice a l.length l.length) l := by
  generalize hn : l.length = n at h
  generalize hv : Value.slice a n cap = v at h
  cases h with
  | some b off cap' l hl hm hc =>
    cases hv
    exact .some b off l.length l (Nat.le_refl _) (by omega) hc
  | empty a' cap' =>
    cases hv
    exact .empty _ _

set_option maxHeartbeats 400000 in
set_option maxRecDepth 20000 in
theorem open_any {w : World} {a : Option Addr} {cap : Nat} {l : List Int} (hv : IntsV w (.slice a l.length cap) l) :
    Calls Tryd.prog 20 #[.slice a l.length cap] w fun r w' => r = .returned (.pointer (some ⟨w.heap.size, 0, none⟩)) ∧ w' = w.drew.alloc (.cells #[.slice a l.length l.length, .bool (rightT l)] 62) := by
  have R := right_any7 (hv.below (Below.refl _ w).drew)
  have hcap : l.length ≤ cap := by
    generalize hn : l.length = n at hv
    generalize hvv : Value.slice a n cap = v at hv
    cases hv with
    | some b off cap' l hl hm hc => cases hvv; exact hl
    | empty a' cap' => cases hvv; exact Nat.zero_le _
  generalize rightT l = q at *
  clear hv
  generalize l.length = n at *
  go_enter Tryd.func20, Tryd.ntmps20
  go_wp2_with fail
  refine wp_region_still_tail 10 (by kernel_rfl) (by kernel_rfl) ?_
  simp only [List.take_succ_cons, List.take_zero, List.drop_succ_cons, List.drop_zero]
  repeat (first | still_step | (refine wpStill_step (fun K hK => ?_); go_simp; apply Exists.intro; refine ⟨?_, hK _ ?_⟩; (go_at_call 15; exact R.mono fun _ _ ⟨he, hw⟩ => ⟨he, hw.symm⟩); clear hK K))
  refine wpStill_nil ?_
  change wpList _ _ _ _ _ w.drew
  go_wp2
  go_ret
  exact ⟨rfl, rfl⟩

theorem holes_any (B : Nat) (x : Int) (w : World) :
    Calls Tryd.prog 22 #[.pointer (some ⟨B, 0, none⟩), .int .i64 x] w fun r w' => r = .returned (.func (.func 31) #[] #[.pointer (some ⟨w.heap.size, 0, none⟩), .pointer (some ⟨w.heap.size + 1, 0, none⟩)]) ∧ (w.alloc (.cells #[.pointer (some ⟨B, 0, none⟩)] 53)).alloc (.cells #[.int .i64 x] 3) = w' := by
  go_enter Tryd.func22, Tryd.ntmps22
  go_wp2
  go_ret
  exact ⟨rfl, rfl⟩

/-- Two holes compared. -/
theorem sizeIntH (w : World) : (sizeOf 3).run Tryd.prog w = .ok 1 w := by kernel_rfl
theorem run_eq_hole (x1 x2 y1 y2 : Int) (w : World) : (Op.equalIn 10000 29 (.agg #[.int .i64 x1, .int .i64 x2]) (.agg #[.int .i64 y1, .int .i64 y2])).run Tryd.prog w = .ok (x1 == y1 && x2 == y2) w := by
  have p0 : ∀ (a b : Value) w, (part 3 #[a, b] 0).run Tryd.prog w = .ok a w := fun _ _ _ => by kernel_rfl
  have p1 : ∀ (a b : Value) w, (part 3 #[a, b] 1).run Tryd.prog w = .ok b w := fun _ _ _ => by kernel_rfl
  have pe : ∀ (x y : Int) w, (Op.equalIn 9999 3 (.int .i64 x) (.int .i64 y)).run Tryd.prog w = .ok (x == y) w := fun x y w => run_equalIn_int w 9998 3 .i64 .i64 x y Tryd.underlying3
  unfold Op.equalIn
  simp only [Sem.run_bind, run_underlying Tryd.underlying29, Result.andThen_ok]
  simp [forIn, ForIn.forIn, Sem.run_bind, p0, p1, pe]
  by_cases h1 : x1 = y1
  · by_cases h2 : x2 = y2
    all_goals simp [h1, h2]
  · simp [h1]

/-- The holes that are met from line k on, if the one under way begins at s. -/
def scanH (K : Nat → Bool) (s k : Nat) : List (Nat × Nat) :=
  if _h : 33 ≤ k then [] else if K k then (if s = k then scanH K (k + 1) (k + 1) else (s, k) :: scanH K (k + 1) (k + 1)) else scanH K s (k + 1)
termination_by 33 - k
theorem scanH_end (K : Nat → Bool) (s k : Nat) (h : 33 ≤ k) : scanH K s k = [] := by rw [scanH, dif_pos h]
theorem scanH_free {K : Nat → Bool} {s k : Nat} (h : k < 33) (hk : K k = false) : scanH K s k = scanH K s (k + 1) := by
  rw [scanH, dif_neg (by omega), hk]; rfl
theorem scanH_none {K : Nat → Bool} {k : Nat} (h : k < 33) (hk : K k = true) : scanH K k k = scanH K (k + 1) (k + 1) := by
  rw [scanH, dif_neg (by omega), hk, if_pos rfl, if_pos rfl]
theorem scanH_some {K : Nat → Bool} {s k : Nat} (h : k < 33) (hk : K k = true) (hs : s ≠ k) : scanH K s k = (s, k) :: scanH K (k + 1) (k + 1) := by
  rw [scanH, dif_neg (by omega), hk, if_pos rfl, if_neg hs]

def encH (h : Nat × Nat) : Value := .agg #[.int .i64 h.1, .int .i64 h.2]

set_option maxHeartbeats 1000000 in
set_option maxRecDepth 20000 in
theorem holes1_gives {w : World} {F0 : Nat → Prop} {C D B : Nat} {a : Option Addr} {l : List Int} {x : Int}
    (hC : w.cell? ⟨C, 0, none⟩ = some (.pointer (some ⟨B, 0, none⟩))) (hD : w.cell? ⟨D, 0, none⟩ = some (.int .i64 x)) (hB : w.heap[B]? = some (.cells #[.slice a l.length l.length, .bool true] 62 (0, 0))) (hv : IntsV w (.slice a l.length l.length) l) (fr : Nat) (hfr : max x 0 = (fr : Int)) :
    GivesF Tryd.prog 31 #[.pointer (some ⟨C, 0, none⟩), .pointer (some ⟨D, 0, none⟩)] encH (scanH (keptB l) fr fr) F0 w := by
  intro lp J E W hW h0 hJ1 hJ2 hJ3 hE hY
  have HY := Lib.hid hY
  have H1 := Lib.hid hJ1
  have H2 := Lib.hid hJ2
  clear hY hJ1 hJ2 hJ3
  have hC' := (hW.cell (p := ⟨C, 0, none⟩) (cell_lt hC)).trans hC
  have hD' := (hW.cell (p := ⟨D, 0, none⟩) (cell_lt hD)).trans hD
  have hB' := (hW.block _ (block_lt hB)).trans hB
  have K := keptF_any hB' (hv.below hW)
  have b0 := cells_cell (i := 0) hB' (v := .slice a l.length l.length) rfl
  have b1 := cells_cell (i := 1) hB' (v := .bool true) rfl
  clear hC hD hB hB' hv
  refine callsIn_of_wp Tryd.func31 rfl trivial ?_ rfl
  simp only [Tryd.ntmps31, List.size_toArray, List.length_cons, List.length_nil, Nat.reduceAdd, Nat.reduceSub, Array.replicate_succ, Array.replicate_zero, List.push_toArray, List.append_toArray, List.nil_append, List.cons_append]
  gi_wp2
  refine wpIn_scope_straight ?_
  gi_wp2_with fail
  refine ⟨trivial, (callsIn_wide.2 K).mono ?_⟩
  rintro r W1 ⟨rfl, hb1⟩
  obtain ⟨W2, hW2, f0, f1, f2⟩ := allocs1 W1 (.cells #[.bool false, .bool false, .bool false, .bool false, .bool false, .bool false, .bool false, .bool false, .bool false, .bool false, .bool false, .bool false, .bool false, .bool false, .bool false, .bool false, .bool false, .bool false, .bool false, .bool false, .bool false, .bool false, .bool false, .bool false, .bool false, .bool false, .bool false, .bool false, .bool false, .bool false, .bool false, .bool false, .bool false] 74)
  rw [falses] at f2
  obtain ⟨W3, hW3⟩ : ∃ W3, W2.setRow W1.heap.size (boolsA (keptB l)) = W3 := ⟨_, rfl⟩
  have f3 : W3.heap[W1.heap.size]? = some (.cells (boolsA (keptB l)) 74 (0, 0)) := by rw [← hW3]; exact setRow_heap W2 _ _ _ _ _ f2
  have g1 : Below W1.heap.size W1 W3 := by rw [← hW3]; exact below_setRow f0 (Nat.le_refl _) _
  have g2 : W3.heap.size = W1.heap.size + 1 := by rw [← hW3]; simp [World.setRow]; exact f1
  obtain ⟨W4, hW4, k0, k1, k2⟩ := allocs1 W3 (.cells #[.int .i64 fr, .int .i64 0] 29)
  have f4 := (k0.block _ (by omega)).trans f3
  rw [g2] at k1 k2
  have z1 := cells_cell (i := 1) k2 (v := .int .i64 0) rfl
  have z2 := cells_free (i := 1) k2
  have k3 := heap_setCell_same (i := 1) (.int .i64 0) k2
  have f5 := (Below.heap_setCell W4 ⟨W1.heap.size + 1, 1, none⟩ (.int .i64 0) W1.heap.size (by show W1.heap.size ≠ W1.heap.size + 1; omega)).trans f4
  have hb4 : Below W.heap.size W W4 := (hb1.trans (g1.mono hb1.size)).trans (k0.mono (by have := hb1.size; omega))
  have d1 := (g1.cell (p := ⟨D, 0, none⟩) (by show D < W1.heap.size; exact Nat.lt_of_lt_of_le (cell_lt hD') hb1.size)).trans ((hb1.cell (p := ⟨D, 0, none⟩) (cell_lt hD')).trans hD')
  have hJ4 := H1.out _ _ _ _ h0 hb4
  have hs1 : W.heap.size ≤ W1.heap.size := hb1.size
  have hwW := hW.size
  have hJ5 := H2.out _ _ _ (W1.heap.size + 1) 1 (.int .i64 0) hJ4 (.inr ⟨by omega, by omega⟩) (by omega)
  obtain ⟨W5, hW5⟩ : ∃ W5, W4.setCell ⟨W1.heap.size + 1, 1, none⟩ (.int .i64 0) = W5 := ⟨_, rfl⟩
  rw [hW5] at k3 f5 hJ5
  have n0 := cells_cell (i := 0) k3 (v := .int .i64 fr) rfl
  have HJ5 := Lib.hid hJ5
  clear hJ4 hJ5
  clear K hb1 f0 f3 g1 k0 h0 b0 b1 hC' hD'
  gi_wp2_with (refine wpListIn_store_row rfl 74 _ _ rfl W1.heap.size (boolsA (keptB l)) rfl rfl 74 (boolsA fun _ => false) f2 (by rw [boolsA_size]; exact arrInfo) (by rw [boolsA_size, boolsA_size]) (boolsA_one _) ?_; rw [hW3])
  refine wpIn_label ?_
  gi_wp2
  have HE := Lib.hid hE
  have HF5 := Lib.hid f5
  have HK3 := Lib.hid k3
  clear hE f5 k3 hW5 z1 z2 k2 n0 f4 hb4 d1 hW4 hW3 hW2 f2
  gi_loopw [6] (fun i V => ∃ (k st : Nat) (to : Int) (pre : List (Nat × Nat)) (F : Nat → Prop), i = .int .i64 k ∧ st ≤ k ∧ J pre F V ∧ F W1.heap.size ∧ F (W1.heap.size + 1) ∧ V.heap[W1.heap.size]? = some (.cells (boolsA (keptB l)) 74 (0, 0)) ∧ V.heap[W1.heap.size + 1]? = some (.cells #[.int .i64 st, .int .i64 to] 29 (0, 0)) ∧ scanH (keptB l) fr fr = pre ++ scanH (keptB l) st k) (fun i _ => 33 - (intOf i).toNat)
  case atStart => exact ⟨fr, fr, 0, [], _, rfl, Nat.le_refl _, HJ5.out, .inr ⟨by omega, by omega⟩, .inr ⟨by omega, by omega⟩, HF5.out, HK3.out, rfl⟩
  case round =>
    obtain ⟨k, st, to, pre, F, rfl, hst, hj, hF1, hF2, q1, q2, hsc⟩ := hrel
    have HJ := Lib.hid hj
    have HS := Lib.hid hsc
    clear hj hsc HJ5 HF5 HK3
    by_cases hlt : k < 33
    · have c1 := cells_cell (i := k) q1 (boolsA_get _ k hlt)
      cases hkk : keptB l k with
      | false =>
        rw [hkk] at c1
        have hs2 : scanH (keptB l) fr fr = pre ++ scanH (keptB l) st (k + 1) := by rw [HS.out, scanH_free hlt hkk]
        have HS2 := Lib.hid hs2
        clear hs2 hkk
        gi_wp2
        go_round
        case rel => exact ⟨k + 1, st, to, pre, F, by go_num, by omega, HJ.out, hF1, hF2, q1, q2, HS2.out⟩
        case measure => simp [intOf]; omega
      | true =>
        rw [hkk] at c1
        have r2 := heap_setCell_same (i := 1) (.int .i64 (k : Int)) q2
        have r1 := (Below.heap_setCell wr ⟨W1.heap.size + 1, 1, none⟩ (.int .i64 (k : Int)) W1.heap.size (by show W1.heap.size ≠ W1.heap.size + 1; omega)).trans q1
        have hj6 := H2.out _ _ _ (W1.heap.size + 1) 1 (.int .i64 (k : Int)) HJ.out hF2 (by omega)
        have z1 := cells_cell (i := 1) q2 (v := .int .i64 to) rfl
        have z2 := cells_free (i := 1) q2
        obtain ⟨V1, hV1⟩ : ∃ V1, wr.setCell ⟨W1.heap.size + 1, 1, none⟩ (.int .i64 (k : Int)) = V1 := ⟨_, rfl⟩
        rw [hV1] at r1 r2 hj6
        obtain ⟨V2, hV2, u0, u1, u2⟩ := allocs1 V1 (.cells #[.int .i64 (k : Int), .int .i64 (k : Int)] 29)
        have s1 := (u0.block _ (block_lt r1)).trans r1
        have s2 := (u0.block _ (block_lt r2)).trans r2
        have hj8 := H1.out _ _ _ _ hj6 u0
        have y0 := cells_cell (i := 0) s2 (v := .int .i64 st) rfl
        have y1 := cells_cell (i := 1) s2 (v := .int .i64 k) rfl
        have y2 := cells_free (i := 0) s2
        have y3 := cells_cell (i := 0) u2 (v := .int .i64 k) rfl
        have y4 := cells_cell (i := 1) u2 (v := .int .i64 k) rfl
        clear u0 hj6 r1 r2 q1 q2 u2
        by_cases e : st = k
        · subst e
          have hs2 : scanH (keptB l) fr fr = pre ++ scanH (keptB l) (st + 1) (st + 1) := by rw [HS.out, scanH_none hlt hkk]
          have HS2 := Lib.hid hs2
          have he : ∀ w, (Op.equalIn 10000 29 (.agg #[.int .i64 st, .int .i64 st]) (.agg #[.int .i64 st, .int .i64 st])).run Tryd.prog w = .ok true w := fun w => by rw [run_eq_hole]; simp
          have t2 := heap_setCell_same (i := 0) (.int .i64 ((st : Int) + 1)) s2
          have t1 := (Below.heap_setCell V2 ⟨W1.heap.size + 1, 0, none⟩ (.int .i64 ((st : Int) + 1)) W1.heap.size (by show W1.heap.size ≠ W1.heap.size + 1; omega)).trans s1
          have hj7 := H2.out _ _ _ (W1.heap.size + 1) 0 (.int .i64 ((st : Int) + 1)) hj8 (.inl hF2) (by omega)
          have HJ7 := Lib.hid hj7
          have HT1 := Lib.hid t1
          have HT2 := Lib.hid t2
          clear hs2 hkk hj7 hj8 t1 t2 s1 s2
          gi_wp2
          refine ⟨fun f hf => (by cases hf), ?_⟩
          gi_wp2
          go_round
          case rel => exact ⟨st + 1, st + 1, (st : Int), pre, _, by go_num, Nat.le_refl _, HJ7.out, .inl hF1, .inl hF2, HT1.out, HT2.out, HS2.out⟩
          case measure => simp [intOf]; omega
        · have hs2 : scanH (keptB l) fr fr = pre ++ (st, k) :: scanH (keptB l) (k + 1) (k + 1) := by rw [HS.out, scanH_some hlt hkk e]
          have HS2 := Lib.hid hs2
          have he : ∀ w, (Op.equalIn 10000 29 (.agg #[.int .i64 st, .int .i64 k]) (.agg #[.int .i64 k, .int .i64 k])).run Tryd.prog w = .ok false w := fun w => by
            rw [run_eq_hole, show ((st : Int) == (k : Int)) = false from beq_eq_false_iff_ne.2 (by omega)]; rfl
          obtain ⟨fn1, tm1, as1, bo1, hy1, hR1⟩ := HY.out _ (st, k) _ _ _ hs2 hj8
          have hy2 : (Instr.yield lp #[.agg #[.int .i64 (st : Int), .int .i64 (k : Int)]]).run Tryd.prog V2 = .ok (.round lp fn1 tm1 as1 bo1) V2 := hy1
          have HR := Lib.hid hR1
          have S1 := Lib.hid s1
          have S2 := Lib.hid s2
          clear hs2 hkk hj8 hR1 s1 s2 hy1
          gi_wp2
          refine HR.out.mono ?_
          clear HR hy2 he y0 y1 y2 y3 y4 c1
          rintro ee V3 (⟨rfl, hj9, hfr9⟩ | ⟨rfl, hE9⟩)
          · have s1 := (hfr9 _ (.inl hF1)).trans S1.out
            have s2 := (hfr9 _ (.inl hF2)).trans S2.out
            have y0 := cells_cell (i := 0) s2 (v := .int .i64 st) rfl
            have y2 := cells_free (i := 0) s2
            have t2 := heap_setCell_same (i := 0) (.int .i64 ((k : Int) + 1)) s2
            have t1 := (Below.heap_setCell V3 ⟨W1.heap.size + 1, 0, none⟩ (.int .i64 ((k : Int) + 1)) W1.heap.size (by show W1.heap.size ≠ W1.heap.size + 1; omega)).trans s1
            have hj7 := H2.out _ _ _ (W1.heap.size + 1) 0 (.int .i64 ((k : Int) + 1)) hj9 (.inl hF2) (by omega)
            have HJ7 := Lib.hid hj7
            have HT1 := Lib.hid t1
            have HT2 := Lib.hid t2
            clear hj7 hj9 t1 t2 s1 s2 hfr9
            gi_wp2
            go_round
            case rel => exact ⟨k + 1, k + 1, (k : Int), pre ++ [(st, k)], _, by go_num, Nat.le_refl _, HJ7.out, .inl hF1, .inl hF2, HT1.out, HT2.out, by rw [HS2.out, List.append_assoc]; rfl⟩
            case measure => simp [intOf]; omega
          · have HE9 := Lib.hid hE9
            clear hE9
            gi_wp2
            rw [Exit.noGoto_normal]
            go_end0
            exact ⟨⟨_, rfl⟩, .inr HE9.out⟩
    · have HE2 : scanH (keptB l) st k = [] := scanH_end _ _ _ (by omega)
      have hs2 := HS.out
      rw [HE2, List.append_nil] at hs2
      have HS2 := Lib.hid hs2
      clear HE2 hs2
      gi_wp2
      rw [Exit.noGoto_normal]
      go_end0
      exact ⟨⟨_, rfl⟩, .inl ⟨F, by rw [HS2.out]; exact HJ.out⟩⟩
end Go.Proofs.YtmgllljilnkkcaaDoor

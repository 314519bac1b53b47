/- Layer arena: Store. -/
import Derived.Test.YtjoghbpekpgkpaaDoorN6b
import Derived.StillTailTactics
import Derived.Test.YtjoghbpekpgkpaaDoorRs
namespace Go.Proofs.YtjoghbpekpgkpaaDoor
open Go Go.RowKit Go.Shelf
attribute [local go_sem ↓] Go.wp_at_zero Go.wp_at_succ
attribute [local go_sem] Oper.semAt_some

/-- What k bytes of a word put from a place on leave. -/
def storeP (f : Nat → Nat) (a v k : Nat) : Nat → Nat := fun j => if a ≤ j ∧ j < a + k then v / 256 ^ (j - a) % 256 else f j
theorem storeP_zero (f : Nat → Nat) (a v : Nat) (j : Nat) : f j = storeP f a v 0 j := by
  unfold storeP
  rw [if_neg (by omega)]
theorem storeP_succ (f : Nat → Nat) (a v k : Nat) (j : Nat) : (if j = a + k then v / 256 ^ k % 256 else storeP f a v k j) = storeP f a v (k + 1) j := by
  unfold storeP
  by_cases e : j = a + k
  · subst e
    rw [if_pos rfl, if_pos (by omega), Nat.add_sub_cancel_left]
  · rw [if_neg e]
    by_cases h : a ≤ j ∧ j < a + k
    · rw [if_pos h, if_pos (by omega)]
    · rw [if_neg h, if_neg (by omega)]

/-- What Store's loop keeps. -/
structure StoreJ (w : World) (p g n A v : Nat) (f : Nat → Nat) (D : Nat) (o : Obj) (k : Nat) (W : World) : Prop where
  grown : w.grownBy W (some g)
  arena : ArenaV W p g n (storeP f A v k)
  b0 : W.heap[w.heap.size]? = some (.cells #[.pointer (some ⟨p, 0, none⟩)] 23 (0, 0))
  b1 : W.heap[w.heap.size + 1]? = some (.cells #[.int .i64 (A : Int)] 3 (0, 0))
  b2 : W.heap[w.heap.size + 1 + 1]? = some (.cells #[.int .u32 (v : Int)] 27 (0, 0))
  marks : W.heap[D]? = some (.deferred (some []))
  loop : W.heap[D + 1]? = some o
theorem StoreJ.next {w : World} {p g n A v : Nat} {f : Nat → Nat} {D : Nat} {o : Obj} {k : Nat} {W W' : World} (h : StoreJ w p g n A v f D o k W) (hb : Below W.heap.size W W') : StoreJ w p g n A v f D o k W' :=
  ⟨grown_trans h.grown (grown_below hb _), h.arena.next hb, (hb.block _ (block_lt h.b0)).trans h.b0, (hb.block _ (block_lt h.b1)).trans h.b1, (hb.block _ (block_lt h.b2)).trans h.b2, (hb.block _ (block_lt h.marks)).trans h.marks, (hb.block _ (block_lt h.loop)).trans h.loop⟩
theorem grown_put {w W : World} {r : Option Nat} (h : w.grownBy W r) {l : Nat} (o : Obj) (hl : w.heap.size ≤ l) : w.grownBy (W.putObj l o) r :=
  ⟨h.os, h.tape, h.output, (putObj_size W l o).symm ▸ h.size, fun k hk hn => (World.putObj_heap_other (by omega)).trans (h.block k hk hn)⟩
theorem StoreJ.put {w : World} {p g n A v : Nat} {f : Nat → Nat} {D : Nat} {o : Obj} {k : Nat} {W : World} (h : StoreJ w p g n A v f D o k W) (hno : o.isCells = false) (o' : Obj) (hw : w.heap.size + 2 < D) : StoreJ w p g n A v f D o' k (W.putObj (D + 1) o') := by
  have hp : p ≠ D + 1 := by
    rintro rfl
    have := h.loop.symm.trans h.arena.box
    obtain rfl := Option.some.inj this
    simp [Obj.isCells] at hno
  have hg : g ≠ D + 1 := by
    rintro rfl
    obtain ⟨cur, h1, _⟩ := h.arena.arr.ex
    have := h.loop.symm.trans h1
    obtain rfl := Option.some.inj this
    simp [Obj.isCells] at hno
  exact ⟨grown_put h.grown o' (by omega), ⟨(World.putObj_heap_other hp).trans h.arena.box, h.arena.arr.same (World.putObj_heap_other hg), h.arena.ne⟩,
    (World.putObj_heap_other (by omega)).trans h.b0, (World.putObj_heap_other (by omega)).trans h.b1, (World.putObj_heap_other (by omega)).trans h.b2, (World.putObj_heap_other (by omega)).trans h.marks, World.putObj_heap_same (block_lt h.loop)⟩
theorem StoreJ.step {w : World} {p g n A v : Nat} {f : Nat → Nat} {D : Nat} {o : Obj} {k : Nat} {W : World} (h : StoreJ w p g n A v f D o k W) (hg : g < w.heap.size) (hw : w.heap.size + 2 < D) {b : Nat} (hb : v / 256 ^ k % 256 = b) : StoreJ w p g n A v f D o (k + 1) (W.setCell ⟨g, A + k, none⟩ (.int .u8 (b : Int))) := by
  have hg2 := grown_set W g (A + k) (.int .u8 (b : Int))
  have hb8 : b < 256 := by rw [← hb]; exact Nat.mod_lt _ (by decide)
  exact ⟨grown_trans h.grown hg2, h.arena.put hg2 ((h.arena.arr.set (A + k) b hb8).congr fun j => by rw [← hb]; exact storeP_succ f A v k j),
    grown_block hg2 (by omega) h.b0, grown_block hg2 (by omega) h.b1, grown_block hg2 (by omega) h.b2, grown_block hg2 (by omega) h.marks, grown_block hg2 (by omega) h.loop⟩

theorem shr_u32 {v i m : Nat} (hi : i < 4) (hm : 8 * i = m) : (v : Int) / 2 ^ min m 32 = ((v / 256 ^ i : Nat) : Int) := by
  have : i = 0 ∨ i = 1 ∨ i = 2 ∨ i = 3 := by omega
  rcases this with rfl | rfl | rfl | rfl
  all_goals
    subst hm
    simp

set_option maxHeartbeats 4000000 in
set_option maxRecDepth 20000 in
theorem store_right {E : EnvN} {w : World} {p g n : Nat} {f : Nat → Nat} (hG : GlobN E w) (hA : ArenaV w p g n f) (A v : Nat) (hm : mul4 (A : Int) = true) (hi : A + 4 ≤ n) :
    Calls Tryd.prog 25 #[.pointer (some ⟨p, 0, none⟩), .int .i64 (A : Int), .int .u32 (v : Int)] w fun r w' => r = .returned (.int .i64 0) ∧ ArenaV w' p g n (storeP f A v 4) ∧ w.grownBy w' (some g) := by
  obtain ⟨w0, hw0, x0, x1, x2, x3, x4⟩ := allocs3 w (.cells #[.pointer (some ⟨p, 0, none⟩)] 23) (.cells #[.int .i64 (A : Int)] 3) (.cells #[.int .u32 (v : Int)] 27)
  obtain ⟨w1, hw1, a0, a1, a2⟩ := allocs1 w0 (.cells #[.int .i64 (A : Int)] 3)
  have hA1 := (hA.next x0).next a0
  have C := check_4 ((hG.below x0).below a0) hA1 (A : Int) 4 (A : Int) (cap := 1) (cells_cell (i := 0) a2 (v := .int .i64 (A : Int)) rfl)
  have hmx := hA.arr.mx
  have hin : inB n (A : Int) 4 = true := inB_iff.2 ⟨by omega, by omega, by omega, by omega⟩
  have e0 : (bif mul4 (A : Int) then chkN n (A : Int) 4 else ErN.adr) = ErN.ok := by unfold chkN; rw [hm, hin]; rfl
  rw [e0, x1] at C
  have gl := hA.arr.lt
  have h00 : ArenaV w p g n (storeP f A v 0) := hA.congr (storeP_zero f A v)
  have H00 := Lib.hid h00
  have y2 := (a0.block _ (block_lt x2)).trans x2
  have y3 := (a0.block _ (block_lt x3)).trans x3
  have y4 := (a0.block _ (block_lt x4)).trans x4
  have c0 := cells_cell (i := 0) x2 (v := .pointer (some ⟨p, 0, none⟩)) rfl
  have c1 := cells_cell (i := 0) x3 (v := .int .i64 (A : Int)) rfl
  have d0 := cells_cell (i := 0) y2 (v := .pointer (some ⟨p, 0, none⟩)) rfl
  have d1 := cells_cell (i := 0) y3 (v := .int .i64 (A : Int)) rfl
  have hB1 := blN x0 a0
  clear hG hA hA1 hin e0 hm h00 x2 x3 x4 a2
  refine calls_of_wp_marks Tryd.func25 rfl ?_
  simp only [Tryd.ntmps25, List.size_toArray, List.length_cons, List.length_nil, Nat.reduceAdd, Nat.reduceSub, Array.replicate_succ, Array.replicate_zero, List.push_toArray, List.append_toArray, List.nil_append, List.cons_append]
  go_wp2_with fail
  refine C.mono ?_
  rintro r w' ⟨rfl, rfl⟩
  unfold ErN.val
  go_wp2_with fail
  clear C
  refine wp_region_still_tail 4 (by kernel_rfl) (by kernel_rfl) ?_
  simp only [List.take_succ_cons, List.take_zero, List.drop_succ_cons, List.drop_zero]
  repeat still_step
  refine wpStill_nil ?_
  change wpList _ _ _ _ _ w1.drew
  have hBd : Below w1.heap.size w1 w1.drew := (Below.refl _ _).drew
  generalize w1.drew = w2 at *
  have z2 := Lib.hid ((hBd.block _ (block_lt y2)).trans y2)
  have z3 := Lib.hid ((hBd.block _ (block_lt y3)).trans y3)
  have z4 := Lib.hid ((hBd.block _ (block_lt y4)).trans y4)
  have hB2 := blN hB1 hBd
  have hs2 : w.heap.size + 2 < w2.heap.size := by have := hBd.size; omega
  obtain ⟨w3, hw3, e0, e1, e2, e3, e4⟩ := allocs3 w2 (.cells #[.pointer (some ⟨p, 0, none⟩)] 79) (.cells #[.int .i64 (A : Int)] 3) (.cells #[.int .i64 4] 3)
  have EA := each_any p (A : Int) 4 w2
  rw [hw3] at EA
  clear y2 y3 y4 c0 c1 d0 d1 hB1 hBd a0 a1 x0 x1 hw0 hw1
  have D2 := Lib.hid e2
  have D3 := Lib.hid e3
  have D4 := Lib.hid e4
  clear e2 e3 e4
  go_wp2_with fail
  refine EA.mono ?_
  rintro r w' ⟨rfl, rfl⟩
  clear EA
  go_wp2
  refine rf_wp (gf := 42) (lb := #[.pointer (some ⟨w2.heap.size, 0, none⟩), .pointer (some ⟨w2.heap.size + 1, 0, none⟩), .pointer (some ⟨w2.heap.size + 1 + 1, 0, none⟩)]) rfl (enters_of Tryd.func42 (by kernel_rfl) rfl) ?_
  intro D L W1 hD hRf hB1 hsz hK hL
  have hwD : w.heap.size + 2 < D := by omega
  have hB3 := blN hB2 e0
  have hb1 := blN hB3 hB1
  have h0 : StoreJ w p g n A v f D (L .ready none) 0 W1 :=
    ⟨grown_below hb1 _, H00.out.next hb1, (hB1.block _ (by omega)).trans ((e0.block _ (by omega)).trans z2.out), (hB1.block _ (by omega)).trans ((e0.block _ (by omega)).trans z3.out), (hB1.block _ (by omega)).trans ((e0.block _ (by omega)).trans z4.out), hK, hL⟩
  clear hD hsz e0 e1
  have hGv := each1_gives (w := W1) (s0 := w2.heap.size) (s1 := w2.heap.size + 1) (s2 := w2.heap.size + 1 + 1) (p := p) (g := g) (n := n) (A := A) (K := 4)
    (cells_cell (i := 0) ((hB1.block _ (block_lt D2.out)).trans D2.out) rfl) (cells_cell (i := 0) ((hB1.block _ (block_lt D3.out)).trans D3.out) rfl) (cells_cell (i := 0) ((hB1.block _ (block_lt D4.out)).trans D4.out) rfl)
    h0.arena.cell hi hmx (D + 1) (StoreJ w p g n A v f D (L .ready none))
  refine (hGv ?_ (fun _ _ _ h hb => h.next hb) h0).mono ?_
  · intro i W2 hi4 hj
    refine ⟨storeP f A v i (A + i), hj.arena.arr.cell _ (by omega), ?_⟩
    refine hRf.round _ _ _ rfl hj.loop ?_
    gi_wp2
    refine ⟨hj.loop, ?_⟩
    have hC2 : StoreJ w p g n A v f D (L .busy none) i (W2.putObj (D + 1) (L .busy none)) := hj.put (hRf.cells _ _) (L .busy none) hwD
    clear hj
    generalize W2.putObj (D + 1) (L .busy none) = W3 at *
    generalize storeP f A v i (A + i) = oldb
    have c0 := cells_cell (i := 0) hC2.b0 rfl
    have c1 := cells_cell (i := 0) hC2.b1 rfl
    have c2 := cells_cell (i := 0) hC2.b2 rfl
    have c3 := hC2.arena.cell
    have c4 := hC2.arena.arr.cell (A + i) (by omega)
    have c5 := hC2.arena.arr.free (A + i)
    obtain ⟨m, hm⟩ : ∃ m, 8 * i = m := ⟨_, rfl⟩
    obtain ⟨q, hq⟩ : ∃ q, v / 256 ^ i = q := ⟨_, rfl⟩
    obtain ⟨b, hb⟩ : ∃ b, q % 256 = b := ⟨_, rfl⟩
    have hfin : StoreJ w p g n A v f D (L .busy none) (i + 1) (W3.drew.setCell ⟨g, A + i, none⟩ (.int .u8 (b : Int))) :=
      (hC2.next (Below.refl _ _).drew).step gl hwD (by rw [hq, hb])
    have wm : IntKind.i64.wrap (8 * (i : Int)) = (m : Int) := by rw [IntWalk.i64_in _ (by omega)]; omega
    have wa : IntKind.i64.wrap ((A : Int) + (i : Int)) = (A : Int) + (i : Int) := IntWalk.i64_in _ (by omega)
    have i1 : (0 : Int) ≤ (A : Int) + (i : Int) := by omega
    have i2 : (A : Int) + (i : Int) < (n : Int) := by omega
    have i3 : ((A : Int) + (i : Int)).toNat = A + i := by omega
    have hsh := shr_u32 (v := v) (i := i) (m := m) hi4 hm
    rw [hq] at hsh
    have HB3 : Hid ((v : Int) / 2 ^ min m 32 % 256 = (b : Int)) := Lib.hid (by rw [hsh]; omega)
    clear hsh
    have HF := Lib.hid hfin
    generalize storeP f A v i (A + i) = xx at c4
    clear hm hq hb hfin hGv h0 hB1 hK hL hb1 hC2
    gi_wp2
    refine wpIn_region_still_tail 14 (by kernel_rfl) (by kernel_rfl) (by rintro ⟨a, w, h⟩; exact h) (by kernel_rfl) ?_
    simp only [List.take_succ_cons, List.take_zero, List.drop_succ_cons, List.drop_zero]
    repeat still_step
    refine wpStill_nil ?_
    change wpList _ _ _ _ _ W3.drew
    go_wp2
    rw [HB3.out]
    have HG : StoreJ w p g n A v f D (L .busy none) (i + 1) ((W3.setCell ⟨g, A + i, none⟩ (.int .u8 (b : Int))).drew) := HF.out
    exact ⟨HG.loop, rfl, HG.put (hRf.cells _ _) (L .ready none) hwD⟩
  · rintro r W ⟨hv, hC⟩
    refine ⟨hv, hC.marks, .inl ⟨hC.loop, ?_⟩⟩
    have hC2 : StoreJ w p g n A v f D (L .exhausted none) 4 (W.putObj (D + 1) (L .exhausted none)) := hC.put (hRf.cells _ _) (L .exhausted none) hwD
    clear hC h0 hGv hB1 hK hL
    generalize W.putObj (D + 1) (L .exhausted none) = W2 at *
    have HC := Lib.hid hC2
    clear hC2
    go_wp2
    have hne : p ≠ D ∧ g ≠ D := by
      refine ⟨?_, by omega⟩
      rintro rfl
      have := HC.out.marks.symm.trans HC.out.arena.box
      simp at this
    exact bodyPostR_ret (D := D) HC.out.marks (results_tmp rfl _ _ _) ⟨rfl, ⟨(World.putObj_heap_other hne.1).trans HC.out.arena.box, HC.out.arena.arr.same (World.putObj_heap_other hne.2), HC.out.arena.ne⟩, grown_put HC.out.grown _ (by omega)⟩

/-- What Store leaves. -/
def storeF (n : Nat) (f : Nat → Nat) (a : Int) (v : Nat) : Nat → Nat := bif okW n a then storeP f a.toNat v 4 else f
set_option maxHeartbeats 1000000 in
set_option maxRecDepth 20000 in
theorem store_bad {E : EnvN} {w : World} {p g n : Nat} {f : Nat → Nat} (hG : GlobN E w) (hA : ArenaV w p g n f) (a : Int) (v : Nat) (h : okW n a = false) :
    Calls Tryd.prog 25 #[.pointer (some ⟨p, 0, none⟩), .int .i64 a, .int .u32 (v : Int)] w fun r w' => r = .returned (.int .i64 10) ∧ Below w.heap.size w w' := by
  obtain ⟨w0, hw0, x0, x1, x2, x3, x4⟩ := allocs3 w (.cells #[.pointer (some ⟨p, 0, none⟩)] 23) (.cells #[.int .i64 a] 3) (.cells #[.int .u32 (v : Int)] 27)
  obtain ⟨w1, hw1, a0, a1, a2⟩ := allocs1 w0 (.cells #[.int .i64 a] 3)
  have hG1 := (hG.below x0).below a0
  have C := check_4 hG1 ((hA.next x0).next a0) a 4 a (cap := 1) (cells_cell (i := 0) a2 (v := .int .i64 a) rfl)
  have e := errW_adr h
  have T := told_N hG1 .adr
  unfold errW at e
  rw [e, x1] at C
  have c0 := cells_cell (i := 0) x2 (v := .pointer (some ⟨p, 0, none⟩)) rfl
  have c1 := cells_cell (i := 0) x3 (v := .int .i64 a) rfl
  have HB := Lib.hid (blN x0 a0)
  clear hG hA h e a2 hG1 x2 x3 x4
  go_enter Tryd.func25, Tryd.ntmps25
  go_wp2_with fail
  refine C.mono ?_
  rintro r w' ⟨rfl, rfl⟩
  unfold ErN.val at T ⊢
  go_wp2_with fail
  refine T.mono ?_
  rintro r w' ⟨rfl, rfl⟩
  go_wp2
  go_ret
  exact ⟨rfl, HB.out⟩
theorem store_N {E : EnvN} {w : World} {p g n : Nat} {f : Nat → Nat} (hG : GlobN E w) (hA : ArenaV w p g n f) (a : Int) (v : Nat) :
    Calls Tryd.prog 25 #[.pointer (some ⟨p, 0, none⟩), .int .i64 a, .int .u32 (v : Int)] w fun r w' => r = .returned (.int .i64 (errW n a).code) ∧ ArenaV w' p g n (storeF n f a v) ∧ w.grownBy w' (some g) := by
  unfold storeF
  cases h : okW n a with
  | true =>
    rw [errW_ok h]
    unfold okW at h
    rw [Bool.and_eq_true] at h
    obtain ⟨h1, h2, h3, h4⟩ := inB_iff.1 h.1
    obtain ⟨A, rfl⟩ : ∃ A : Nat, a = A := ⟨a.toNat, by omega⟩
    rw [cond_true, Int.toNat_natCast]
    exact store_right hG hA A v h.2 (by omega)
  | false =>
    rw [errW_adr h, cond_false]
    exact (store_bad hG hA a v h).mono fun r w' ⟨h1, h2⟩ => ⟨h1, hA.next h2, grown_below h2 _⟩
end Go.Proofs.YtjoghbpekpgkpaaDoor

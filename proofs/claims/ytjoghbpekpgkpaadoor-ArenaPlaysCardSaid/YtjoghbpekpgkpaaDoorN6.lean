/- Layer arena: Load. -/
import Derived.Test.YtjoghbpekpgkpaaDoorN5
namespace Go.Proofs.YtjoghbpekpgkpaaDoor
open Go Go.RowKit Go.Shelf
attribute [local go_sem ↓] Go.wp_at_zero Go.wp_at_succ
attribute [local go_sem] Oper.semAt_some

/-- The worth of the first k bytes from a place on. -/
def worthP (f : Nat → Nat) (a : Nat) : Nat → Nat
  | 0 => 0
  | k + 1 => worthP f a k + f (a + k) * 256 ^ k
theorem worthP_lt {f : Nat → Nat} (h : ∀ j, f j < 256) (a : Nat) : ∀ k, worthP f a k < 256 ^ k
  | 0 => Nat.one_pos
  | k + 1 => by
    have := worthP_lt h a k
    have h1 := h (a + k)
    have h2 : f (a + k) * 256 ^ k ≤ 255 * 256 ^ k := Nat.mul_le_mul_right _ (by omega)
    rw [worthP, Nat.pow_succ]
    omega
def wordF (f : Nat → Nat) (a : Nat) : Nat := worthP f a 4
theorem wordF_lt {f : Nat → Nat} (h : ∀ j, f j < 256) (a : Nat) : wordF f a < 4294967296 := worthP_lt h a 4

/-- What Load's loop keeps. -/
structure LoadJ (w : World) (p g n A : Nat) (f : Nat → Nat) (D X : Nat) (o : Obj) (k : Nat) (W : World) : Prop where
  below : Below w.heap.size w W
  arena : ArenaV W p g n f
  box : W.heap[X]? = some (.cells #[.int .u32 ((worthP f A k : Nat) : Int)] 27 (0, 0))
  marks : W.heap[D]? = some (.deferred (some []))
  loop : W.heap[D + 1]? = some o
theorem LoadJ.next {w : World} {p g n A : Nat} {f : Nat → Nat} {D X : Nat} {o : Obj} {k : Nat} {W W' : World} (h : LoadJ w p g n A f D X o k W) (hb : Below W.heap.size W W') : LoadJ w p g n A f D X o k W' :=
  ⟨blN h.below hb, h.arena.next hb, (hb.block _ (block_lt h.box)).trans h.box, (hb.block _ (block_lt h.marks)).trans h.marks, (hb.block _ (block_lt h.loop)).trans h.loop⟩

theorem LoadJ.put {w : World} {p g n A : Nat} {f : Nat → Nat} {D X : Nat} {o : Obj} {k : Nat} {W : World} (h : LoadJ w p g n A f D X o k W) (hno : o.isCells = false) (o' : Obj) (hX : X ≤ D) (hw : w.heap.size ≤ D) : LoadJ w p g n A f D X o' k (W.putObj (D + 1) o') := by
  have hp : p ≠ D + 1 := by
    rintro rfl
    have := h.loop.symm.trans h.arena.box
    obtain rfl := Option.some.inj this
    simp [Obj.isCells] at hno
  have hg : g ≠ D + 1 := by
    rintro rfl
    obtain ⟨cur, h1, _⟩ := h.arena.arr.ex
    have := h.loop.symm.trans h1
    obtain rfl := Option.some.inj this
    simp [Obj.isCells] at hno
  exact ⟨below_putObj h.below o' h.loop (by omega), ⟨(World.putObj_heap_other hp).trans h.arena.box, h.arena.arr.same (World.putObj_heap_other hg), h.arena.ne⟩,
    (World.putObj_heap_other (by omega)).trans h.box, (World.putObj_heap_other (by omega)).trans h.marks, World.putObj_heap_same (block_lt h.loop)⟩
theorem LoadJ.step {w : World} {p g n A : Nat} {f : Nat → Nat} {D X : Nat} {o : Obj} {k : Nat} {W : World} (h : LoadJ w p g n A f D X o k W) (hX : X < D) (hw : w.heap.size ≤ X) (hpX : p ≠ X) (hgX : g ≠ X) : LoadJ w p g n A f D X o (k + 1) (W.setCell ⟨X, 0, none⟩ (.int .u32 ((worthP f A (k + 1) : Nat) : Int))) :=
  ⟨h.below.setCell (p := ⟨X, 0, none⟩) hw _, ⟨(Below.heap_setCell _ _ _ _ hpX).trans h.arena.box, h.arena.arr.same (Below.heap_setCell _ _ _ _ hgX), h.arena.ne⟩,
    heap_setCell_same (i := 0) _ h.box, (Below.heap_setCell _ _ _ _ (by show D ≠ X; omega)).trans h.marks, (Below.heap_setCell _ _ _ _ (by show D + 1 ≠ X; omega)).trans h.loop⟩

theorem shl_u32 {x i m z : Nat} (hi : i < 4) (hx : x < 256) (hm : 8 * i = m) (hz : x * 256 ^ i = z) : IntKind.u32.wrap ((x : Int) * 2 ^ min m 32) = (z : Int) := by
  have : i = 0 ∨ i = 1 ∨ i = 2 ∨ i = 3 := by omega
  rw [IntKind.wrap_u32]
  rcases this with rfl | rfl | rfl | rfl
  all_goals
    subst hm hz
    simp
    try omega
theorem or_u32 {x y i z s : Nat} (hi : i < 4) (hx : x < 256) (hy : y < 256 ^ i) (hz : x * 256 ^ i = z) (hs : y + z = s) : bits .or .u32 (y : Int) (z : Int) = (s : Int) := by
  have h1 : 256 ^ i = 2 ^ (8 * i) := by rw [Nat.pow_mul]
  have h2 : x * 2 ^ (8 * i) + y = x * 2 ^ (8 * i) ||| y := by rw [Nat.mul_comm]; exact Nat.two_pow_add_eq_or_of_lt (by rw [← h1]; exact hy) x
  have h3 : 256 ^ i ≤ 256 ^ 3 := Nat.pow_le_pow_right (by decide) (by omega)
  have h4 : x * 256 ^ i ≤ 255 * 256 ^ 3 := Nat.mul_le_mul (by omega) h3
  have hor := (bits_nat .u32 32 (by decide) (fun n h0 h1 => by rw [IntKind.wrap_u32]; omega) y z (by omega) (by omega)).2
  rw [hor, ← hs, ← hz, h1, Nat.or_comm, ← h2, Nat.add_comm]

set_option maxHeartbeats 800000 in
set_option maxRecDepth 20000 in
theorem load_right {E : EnvN} {w : World} {p g n : Nat} {f : Nat → Nat} (hG : GlobN E w) (hA : ArenaV w p g n f) (A : Nat) (hm : mul4 (A : Int) = true) (hi : A + 4 ≤ n) :
    Calls Tryd.prog 12 #[.pointer (some ⟨p, 0, none⟩), .int .i64 (A : Int)] w fun r w' => r = .returned (.tuple #[.int .u32 ((wordF f A : Nat) : Int), .int .i64 0]) ∧ Below w.heap.size w w' := by
  obtain ⟨w1, hw1, a0, a1, a2⟩ := allocs1 w (.cells #[.int .i64 (A : Int)] 3)
  have hA1 := hA.next a0
  have C := check_4 (hG.below a0) hA1 (A : Int) 4 (A : Int) (cap := 1) (cells_cell (i := 0) a2 (v := .int .i64 (A : Int)) rfl)
  have hmx := hA.arr.mx
  have hin : inB n (A : Int) 4 = true := inB_iff.2 ⟨by omega, by omega, by omega, by omega⟩
  have e0 : (bif mul4 (A : Int) then chkN n (A : Int) 4 else ErN.adr) = ErN.ok := by unfold chkN; rw [hm, hin]; rfl
  rw [e0] at C
  obtain ⟨w2, hw2, b0, b1, b2⟩ := allocs1 w1 (.cells #[.int .u32 0] 27)
  have hA2 := hA1.next b0
  obtain ⟨w3, hw3, d0, d1, d2, d3, d4⟩ := allocs3 w2 (.cells #[.pointer (some ⟨p, 0, none⟩)] 79) (.cells #[.int .i64 (A : Int)] 3) (.cells #[.int .i64 4] 3)
  have EA := each_any p (A : Int) 4 w2
  rw [hw3] at EA
  rw [b1, a1] at EA d2 d3 d4
  rw [a1] at b2
  have hB3 := blN (blN a0 b0) d0
  have HA3 := Lib.hid (hA2.next d0)
  have X3 := Lib.hid ((d0.block _ (block_lt b2)).trans b2)
  have D2 := Lib.hid d2
  have D3 := Lib.hid d3
  have D4 := Lib.hid d4
  have hNp : p ≠ w.heap.size + 1 ∧ g ≠ w.heap.size + 1 := by have := block_lt hA.box; have := hA.arr.lt; omega
  have HX : w.heap.size + 1 < w3.heap.size := by have := b0.size; have := d0.size; have := block_lt b2; omega
  have HW2 := Lib.hid hw2
  clear hG hA hA1 hin e0 hm a2 d2 d3 d4 b2 hA2 d0 b0 hw2
  refine calls_of_wp_marks Tryd.func12 rfl ?_
  simp only [Tryd.ntmps12, List.size_toArray, List.length_cons, List.length_nil, Nat.reduceAdd, Nat.reduceSub, Array.replicate_succ, Array.replicate_zero, List.push_toArray, List.append_toArray, List.nil_append, List.cons_append]
  go_wp2_with fail
  refine C.mono ?_
  rintro r w' ⟨rfl, rfl⟩
  unfold ErN.val
  go_wp2_with fail
  rw [HW2.out]
  go_wp2_with fail
  refine EA.mono ?_
  rintro r w' ⟨rfl, rfl⟩
  clear C EA
  go_wp2
  refine rf_wp (gf := 42) (lb := #[.pointer (some ⟨w.heap.size + 1 + 1, 0, none⟩), .pointer (some ⟨w.heap.size + 1 + 1 + 1, 0, none⟩), .pointer (some ⟨w.heap.size + 1 + 1 + 1 + 1, 0, none⟩)]) rfl (enters_of Tryd.func42 (by kernel_rfl) rfl) ?_
  intro D L W1 hD hRf hB1 hsz hK hL
  have hXD : w.heap.size + 1 < D := hD ▸ HX
  have hwX : w.heap.size ≤ w.heap.size + 1 := Nat.le_add_right _ _
  have hwD : w.heap.size ≤ D := Nat.le_trans hwX (Nat.le_of_lt hXD)
  clear hD hsz HX
  have h0 : LoadJ w p g n A f D (w.heap.size + 1) (L .ready none) 0 W1 :=
    ⟨blN hB3 hB1, HA3.out.next hB1, (hB1.block _ (block_lt X3.out)).trans X3.out, hK, hL⟩
  have hGv := each1_gives (w := W1) (s0 := w.heap.size + 1 + 1) (s1 := w.heap.size + 1 + 1 + 1) (s2 := w.heap.size + 1 + 1 + 1 + 1) (p := p) (g := g) (n := n) (A := A) (K := 4)
    (cells_cell (i := 0) ((hB1.block _ (block_lt D2.out)).trans D2.out) rfl) (cells_cell (i := 0) ((hB1.block _ (block_lt D3.out)).trans D3.out) rfl) (cells_cell (i := 0) ((hB1.block _ (block_lt D4.out)).trans D4.out) rfl)
    h0.arena.cell hi hmx (D + 1) (LoadJ w p g n A f D (w.heap.size + 1) (L .ready none))
  refine (hGv ?_ (fun _ _ _ h hb => h.next hb) h0).mono ?_
  · intro i W2 hi4 hj
    refine ⟨f (A + i), hj.arena.arr.cell _ (by omega), ?_⟩
    refine hRf.round _ _ _ rfl hj.loop ?_
    gi_wp2
    refine ⟨hj.loop, ?_⟩
    have hC2 : LoadJ w p g n A f D (w.heap.size + 1) (L .busy none) i (W2.putObj (D + 1) (L .busy none)) := hj.put (hRf.cells _ _) (L .busy none) (Nat.le_of_lt hXD) hwD
    clear hj
    generalize W2.putObj (D + 1) (L .busy none) = W3 at *
    have c1 := cells_cell (i := 0) hC2.box rfl
    have i4 : i = 0 ∨ i = 1 ∨ i = 2 ∨ i = 3 := by omega
    have hx := hC2.arena.arr.by8 (A + i)
    have hp := worthP_lt hC2.arena.arr.by8 A i
    generalize hxe : f (A + i) = x at *
    generalize hy : worthP f A i = y at *
    clear hGv h0 hB3 hB1 hK hL
    have HC2 := Lib.hid hC2
    clear hC2
    obtain ⟨m, hm⟩ : ∃ m, 8 * i = m := ⟨_, rfl⟩
    obtain ⟨z, hz⟩ : ∃ z, x * 256 ^ i = z := ⟨_, rfl⟩
    obtain ⟨s, hs⟩ : ∃ s, y + z = s := ⟨_, rfl⟩
    have hfin : LoadJ w p g n A f D (w.heap.size + 1) (L .busy none) (i + 1) (W3.drew.setCell ⟨w.heap.size + 1, 0, none⟩ (.int .u32 ((s : Nat) : Int))) := by
      rw [← hs, ← hz, ← hy, ← hxe]
      exact (HC2.out.next (Below.refl _ _).drew).step hXD hwX (fun e => hNp.1 e) (fun e => hNp.2 e)
    have wt : IntKind.u32.wrap (x : Int) = (x : Int) := by rw [IntKind.wrap_u32]; omega
    have wm : IntKind.i64.wrap (8 * (i : Int)) = (m : Int) := by rw [IntWalk.i64_in _ (by omega)]; omega
    have hsh := shl_u32 (x := x) (i := i) (m := m) (z := z) hi4 hx hm hz
    have hor := or_u32 (x := x) (y := y) (i := i) (z := z) (s := s) hi4 hx hp hz hs
    have HF := Lib.hid hfin
    have c2 := cells_free (i := 0) HC2.out.box
    clear hm hz hs hfin i4 hx hp hy hxe
    gi_wp2
    gi_region
    all_goals
      have HG : LoadJ w p g n A f D (w.heap.size + 1) (L .busy none) (i + 1) ((W3.setCell ⟨w.heap.size + 1, 0, none⟩ (.int .u32 ((s : Nat) : Int))).drew) := HF.out
      gi_wp2
      exact ⟨HG.loop, rfl, HG.put (hRf.cells _ _) (L .ready none) (Nat.le_of_lt hXD) hwD⟩
  · rintro r W ⟨hv, hC⟩
    refine ⟨hv, hC.marks, .inl ⟨hC.loop, ?_⟩⟩
    have hC2 : LoadJ w p g n A f D (w.heap.size + 1) (L .exhausted none) 4 (W.putObj (D + 1) (L .exhausted none)) := hC.put (hRf.cells _ _) (L .exhausted none) (Nat.le_of_lt hXD) hwD
    clear hC h0 hGv hB1 hK hL
    generalize W.putObj (D + 1) (L .exhausted none) = W2 at *
    have c1 := cells_cell (i := 0) hC2.box rfl
    have HM := Lib.hid hC2.marks
    have HB := Lib.hid hC2.below
    clear hC2
    go_wp2
    exact bodyPostR_ret (D := D) HM.out (results_tmp2 rfl _ _ _) ⟨rfl, below_putObj HB.out _ HM.out hwD⟩

/-- What Load answers. -/
def okW (n : Nat) (a : Int) : Bool := inB n a 4 && mul4 a
def errW (n : Nat) (a : Int) : ErN := bif mul4 a then chkN n a 4 else .adr
def loadN (n : Nat) (f : Nat → Nat) (a : Int) : Nat := bif okW n a then wordF f a.toNat else 0
theorem errW_ok {n : Nat} {a : Int} (h : okW n a = true) : errW n a = .ok := by
  unfold okW at h
  rw [Bool.and_eq_true] at h
  unfold errW chkN
  rw [h.1, h.2]
  rfl
theorem errW_adr {n : Nat} {a : Int} (h : okW n a = false) : errW n a = .adr := by
  unfold okW at h
  unfold errW chkN
  cases h1 : mul4 a with
  | false => rfl
  | true =>
    rw [h1, Bool.and_true] at h
    rw [h]
    rfl
end Go.Proofs.YtjoghbpekpgkpaaDoor

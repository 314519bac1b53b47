/- Layer arena: Store. -/
import Derived.Test.YtdhligapadblgaaDoorN6b
import Derived.StillTailTactics
import Derived.Test.YtdhligapadblgaaDoorRs
namespace Go.Proofs.YtdhligapadblgaaDoor
open Go Go.RowKit Go.Shelf
attribute [local go_sem ↓] Go.wp_at_zero Go.wp_at_succ
attribute [local go_sem] Oper.semAt_some

/-- What k bytes of a word put from a place on leave. -/
def storeP (f : Nat → Nat) (a v k : Nat) : Nat → Nat := fun j => if a ≤ j ∧ j < a + k then v / 256 ^ (j - a) % 256 else f j
theorem storeP_zero (f : Nat → Nat) (a v : Nat) (j : Nat) : f j = storeP f a v 0 j := by
  unfold storeP
  rw [if_neg (by omega)]
theorem storeP_succ (f : Nat → Nat) (a v k : Nat) (j : Nat) : (if j = a + k then v / 256 ^ k % 256 else storeP f a v k j) = storeP f a v (k + 1) j := by
  unfold storeP
  by_cases e : j = a + k
  · subst e
    rw [if_pos rfl, if_pos (by omega), Nat.add_sub_cancel_left]
  · rw [if_neg e]
    by_cases h : a ≤ j ∧ j < a + k
    · rw [if_pos h, if_pos (by omega)]
    · rw [if_neg h, if_neg (by omega)]

/-- What Store's loop keeps. -/
structure StoreJ (w : World) (p g n A v : Nat) (f : Nat → Nat) (D : Nat) (o : Obj) (k : Nat) (W : World) : Prop where
  grown : w.grownBy W (some g)
  arena : ArenaV W p g n (storeP f A v k)
  b0 : W.heap[w.heap.size]? = some (.cells #[.pointer (some ⟨p, 0, none⟩)] 38 (0, 0))
  b1 : W.heap[w.heap.size + 1]? = some (.cells #[.int .i64 (A : Int)] 3 (0, 0))
  b2 : W.heap[w.heap.size + 1 + 1]? = some (.cells #[.int .u32 (v : Int)] 114 (0, 0))
  marks : W.heap[D]? = some (.deferred (some []))
  loop : W.heap[D + 1]? = some o
theorem StoreJ.next {w : World} {p g n A v : Nat} {f : Nat → Nat} {D : Nat} {o : Obj} {k : Nat} {W W' : World} (h : StoreJ w p g n A v f D o k W) (hb : Below W.heap.size W W') : StoreJ w p g n A v f D o k W' :=
  ⟨grown_trans h.grown (grown_below hb _), h.arena.next hb, (hb.block _ (block_lt h.b0)).trans h.b0, (hb.block _ (block_lt h.b1)).trans h.b1, (hb.block _ (block_lt h.b2)).trans h.b2, (hb.block _ (block_lt h.marks)).trans h.marks, (hb.block _ (block_lt h.loop)).trans h.loop⟩
theorem grown_put {w W : World} {r : Option Nat} (h : w.grownBy W r) {l : Nat} (o : Obj) (hl : w.heap.size ≤ l) : w.grownBy (W.putObj l o) r :=
  ⟨h.os, h.tape, h.output, (putObj_size W l o).symm ▸ h.size, fun k hk hn => (World.putObj_heap_other (by omega)).trans (h.block k hk hn)⟩
theorem StoreJ.put {w : World} {p g n A v : Nat} {f : Nat → Nat} {D : Nat} {o : Obj} {k : Nat} {W : World} (h : StoreJ w p g n A v f D o k W) (hno : o.isCells = false) (o' : Obj) (hw : w.heap.size + 2 < D) : StoreJ w p g n A v f D o' k (W.putObj (D + 1) o') := by
  have hp : p ≠ D + 1 := by
    rintro rfl
    have := h.loop.symm.trans h.arena.box
    obtain rfl := Option.some.inj this
    simp [Obj.isCells] at hno
  have hg : g ≠ D + 1 := by
    rintro rfl
    obtain ⟨cur, h1, _⟩ := h.arena.arr.ex
    have := h.loop.symm.trans h1
    obtain rfl := Option.some.inj this
    simp [Obj.isCells] at hno
  exact ⟨grown_put h.grown o' (by omega), ⟨(World.putObj_heap_other hp).trans h.arena.box, h.arena.arr.same (World.putObj_heap_other hg), h.arena.ne⟩,
    (World.putObj_heap_other (by omega)).trans h.b0, (World.putObj_heap_other (by omega)).trans h.b1, (World.putObj_heap_other (by omega)).trans h.b2, (World.putObj_heap_other (by omega)).trans h.marks, World.putObj_heap_same (block_lt h.loop)⟩
theorem StoreJ.step {w : World} {p g n A v : Nat} {f : Nat → Nat} {D : Nat} {o : Obj} {k : Nat} {W : World} (h : StoreJ w p g n A v f D o k W) (hg : g < w.heap.size) (hw : w.heap.size + 2 < D) {b : Nat} (hb : v / 256 ^ k % 256 = b) : StoreJ w p g n A v f D o (k + 1) (W.setCell ⟨g, A + k, none⟩ (.int .u8 (b : Int))) := by
  have hg2 := grown_set W g (A + k) (.int .u8 (b : Int))
  have hb8 : b < 256 := by rw [← hb]; exact Nat.mod_lt _ (by decide)
  exact ⟨grown_trans h.grown hg2, h.arena.put hg2 ((h.arena.arr.set (A + k) b hb8).congr fun j => by rw [← hb]; exact storeP_succ f A v k j),
    grown_block hg2 (by omega) h.b0, grown_block hg2 (by omega) h.b1, grown_block hg2 (by omega) h.b2, grown_block hg2 (by omega) h.marks, grown_block hg2 (by omega) h.loop⟩

theorem shr_u32 {v i m : Nat} (hi : i < 4) (hm : 8 * i = m) : (v : Int) / 2 ^ min m 32 = ((v / 256 ^ i : Nat) : Int) := by
  have : i = 0 ∨ i = 1 ∨ i = 2 ∨ i = 3 := by omega
  rcases this with rfl | rfl | rfl | rfl
  all_goals
    subst hm
    simp

/-- What Store leaves. -/
def storeF (n : Nat) (f : Nat → Nat) (a : Int) (v : Nat) : Nat → Nat := bif okW n a then storeP f a.toNat v 4 else f
end Go.Proofs.YtdhligapadblgaaDoor

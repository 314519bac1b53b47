/- Layer arena: Load. -/
import Derived.Test.YtdhligapadblgaaDoorN5
namespace Go.Proofs.YtdhligapadblgaaDoor
open Go Go.RowKit Go.Shelf
attribute [local go_sem ↓] Go.wp_at_zero Go.wp_at_succ
attribute [local go_sem] Oper.semAt_some

/-- The worth of the first k bytes from a place on. -/
def worthP (f : Nat → Nat) (a : Nat) : Nat → Nat
  | 0 => 0
  | k + 1 => worthP f a k + f (a + k) * 256 ^ k
theorem worthP_lt {f : Nat → Nat} (h : ∀ j, f j < 256) (a : Nat) : ∀ k, worthP f a k < 256 ^ k
  | 0 => Nat.one_pos
  | k + 1 => by
    have := worthP_lt h a k
    have h1 := h (a + k)
    have h2 : f (a + k) * 256 ^ k ≤ 255 * 256 ^ k := Nat.mul_le_mul_right _ (by omega)
    rw [worthP, Nat.pow_succ]
    omega
def wordF (f : Nat → Nat) (a : Nat) : Nat := worthP f a 4
theorem wordF_lt {f : Nat → Nat} (h : ∀ j, f j < 256) (a : Nat) : wordF f a < 4294967296 := worthP_lt h a 4

/-- What Load's loop keeps. -/
structure LoadJ (w : World) (p g n A : Nat) (f : Nat → Nat) (D X : Nat) (o : Obj) (k : Nat) (W : World) : Prop where
  below : Below w.heap.size w W
  arena : ArenaV W p g n f
  box : W.heap[X]? = some (.cells #[.int .u32 ((worthP f A k : Nat) : Int)] 114 (0, 0))
  marks : W.heap[D]? = some (.deferred (some []))
  loop : W.heap[D + 1]? = some o
theorem LoadJ.next {w : World} {p g n A : Nat} {f : Nat → Nat} {D X : Nat} {o : Obj} {k : Nat} {W W' : World} (h : LoadJ w p g n A f D X o k W) (hb : Below W.heap.size W W') : LoadJ w p g n A f D X o k W' :=
  ⟨blN h.below hb, h.arena.next hb, (hb.block _ (block_lt h.box)).trans h.box, (hb.block _ (block_lt h.marks)).trans h.marks, (hb.block _ (block_lt h.loop)).trans h.loop⟩

theorem LoadJ.put {w : World} {p g n A : Nat} {f : Nat → Nat} {D X : Nat} {o : Obj} {k : Nat} {W : World} (h : LoadJ w p g n A f D X o k W) (hno : o.isCells = false) (o' : Obj) (hX : X ≤ D) (hw : w.heap.size ≤ D) : LoadJ w p g n A f D X o' k (W.putObj (D + 1) o') := by
  have hp : p ≠ D + 1 := by
    rintro rfl
    have := h.loop.symm.trans h.arena.box
    obtain rfl := Option.some.inj this
    simp [Obj.isCells] at hno
  have hg : g ≠ D + 1 := by
    rintro rfl
    obtain ⟨cur, h1, _⟩ := h.arena.arr.ex
    have := h.loop.symm.trans h1
    obtain rfl := Option.some.inj this
    simp [Obj.isCells] at hno
  exact ⟨below_putObj h.below o' h.loop (by omega), ⟨(World.putObj_heap_other hp).trans h.arena.box, h.arena.arr.same (World.putObj_heap_other hg), h.arena.ne⟩,
    (World.putObj_heap_other (by omega)).trans h.box, (World.putObj_heap_other (by omega)).trans h.marks, World.putObj_heap_same (block_lt h.loop)⟩
theorem LoadJ.step {w : World} {p g n A : Nat} {f : Nat → Nat} {D X : Nat} {o : Obj} {k : Nat} {W : World} (h : LoadJ w p g n A f D X o k W) (hX : X < D) (hw : w.heap.size ≤ X) (hpX : p ≠ X) (hgX : g ≠ X) : LoadJ w p g n A f D X o (k + 1) (W.setCell ⟨X, 0, none⟩ (.int .u32 ((worthP f A (k + 1) : Nat) : Int))) :=
  ⟨h.below.setCell (p := ⟨X, 0, none⟩) hw _, ⟨(Below.heap_setCell _ _ _ _ hpX).trans h.arena.box, h.arena.arr.same (Below.heap_setCell _ _ _ _ hgX), h.arena.ne⟩,
    heap_setCell_same (i := 0) _ h.box, (Below.heap_setCell _ _ _ _ (by show D ≠ X; omega)).trans h.marks, (Below.heap_setCell _ _ _ _ (by show D + 1 ≠ X; omega)).trans h.loop⟩

theorem shl_u32 {x i m z : Nat} (hi : i < 4) (hx : x < 256) (hm : 8 * i = m) (hz : x * 256 ^ i = z) : IntKind.u32.wrap ((x : Int) * 2 ^ min m 32) = (z : Int) := by
  have : i = 0 ∨ i = 1 ∨ i = 2 ∨ i = 3 := by omega
  rw [IntKind.wrap_u32]
  rcases this with rfl | rfl | rfl | rfl
  all_goals
    subst hm hz
    simp
    try omega
theorem or_u32 {x y i z s : Nat} (hi : i < 4) (hx : x < 256) (hy : y < 256 ^ i) (hz : x * 256 ^ i = z) (hs : y + z = s) : bits .or .u32 (y : Int) (z : Int) = (s : Int) := by
  have h1 : 256 ^ i = 2 ^ (8 * i) := by rw [Nat.pow_mul]
  have h2 : x * 2 ^ (8 * i) + y = x * 2 ^ (8 * i) ||| y := by rw [Nat.mul_comm]; exact Nat.two_pow_add_eq_or_of_lt (by rw [← h1]; exact hy) x
  have h3 : 256 ^ i ≤ 256 ^ 3 := Nat.pow_le_pow_right (by decide) (by omega)
  have h4 : x * 256 ^ i ≤ 255 * 256 ^ 3 := Nat.mul_le_mul (by omega) h3
  have hor := (bits_nat .u32 32 (by decide) (fun n h0 h1 => by rw [IntKind.wrap_u32]; omega) y z (by omega) (by omega)).2
  rw [hor, ← hs, ← hz, h1, Nat.or_comm, ← h2, Nat.add_comm]

/-- What Load answers. -/
def okW (n : Nat) (a : Int) : Bool := inB n a 4 && mul4 a
def errW (n : Nat) (a : Int) : ErN := bif mul4 a then chkN n a 4 else .adr
def loadN (n : Nat) (f : Nat → Nat) (a : Int) : Nat := bif okW n a then wordF f a.toNat else 0
theorem errW_ok {n : Nat} {a : Int} (h : okW n a = true) : errW n a = .ok := by
  unfold okW at h
  rw [Bool.and_eq_true] at h
  unfold errW chkN
  rw [h.1, h.2]
  rfl
theorem errW_adr {n : Nat} {a : Int} (h : okW n a = false) : errW n a = .adr := by
  unfold okW at h
  unfold errW chkN
  cases h1 : mul4 a with
  | false => rfl
  | true =>
    rw [h1, Bool.and_true] at h
    rw [h]
    rfl
end Go.Proofs.YtdhligapadblgaaDoor

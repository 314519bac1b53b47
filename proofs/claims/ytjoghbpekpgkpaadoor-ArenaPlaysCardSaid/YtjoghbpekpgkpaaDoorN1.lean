/- Layer arena: the package's sentinels, told, addr.Join: contracts. -/
import Derived.Test.YtjoghbpekpgkpaaDoorA2
import Derived.Test.YtjoghbpekpgkpaaDoorGv
import Derived.Test.YtjoghbpekpgkpaaDoorN0
namespace Go.Proofs.YtjoghbpekpgkpaaDoor
open Go.RowKit
attribute [local go_sem ↓] Go.wp_at_zero Go.wp_at_succ

/-- Where the packages' sentinels lie. -/
structure EnvN where
  aNil : Addr
  aArg : Addr
  aAdr : Addr
  aA : Addr

/-- An error of the package's, or none. -/
inductive ErN where
  | ok | nil | arg | adr
deriving DecidableEq
def ErN.val (E : EnvN) : ErN → Value
  | .ok => .nilIface
  | .nil => .iface 96 (.pointer (some E.aNil))
  | .arg => .iface 96 (.pointer (some E.aArg))
  | .adr => .iface 96 (.pointer (some E.aAdr))
def ErN.code : ErN → Int
  | .ok => 0 | .nil => 1 | .arg => 2 | .adr => 10

/-- The packages' variables, as the call finds them. -/
structure GlobN (E : EnvN) (w : World) : Prop where
  cNil : w.cell? ⟨2, 0, none⟩ = some (.iface 96 (.pointer (some E.aNil)))
  cArg : w.cell? ⟨0, 0, none⟩ = some (.iface 96 (.pointer (some E.aArg)))
  cAdr : w.cell? ⟨3, 0, none⟩ = some (.iface 96 (.pointer (some E.aAdr)))
  cA : w.cell? ⟨1, 0, none⟩ = some (.iface 96 (.pointer (some E.aA)))
  bNil : ∃ ca ta, w.heap[E.aNil.block]? = some (.cells ca ta (0, 0))
  bArg : ∃ ca ta, w.heap[E.aArg.block]? = some (.cells ca ta (0, 0))
  bAdr : ∃ ca ta, w.heap[E.aAdr.block]? = some (.cells ca ta (0, 0))
  ne1 : E.aNil ≠ E.aArg
  ne2 : E.aNil ≠ E.aAdr
  ne3 : E.aArg ≠ E.aAdr

theorem GlobN.below {E : EnvN} {w w' : World} (h : GlobN E w) (hb : Below w.heap.size w w') : GlobN E w' := by
  have c : ∀ {g : Nat} {v : Value}, w.cell? ⟨g, 0, none⟩ = some v → w'.cell? ⟨g, 0, none⟩ = some v := fun {g v} hg => (hb.cell (p := ⟨g, 0, none⟩) (cell_lt hg)).trans hg
  have k : ∀ {n : Nat}, (∃ ca ta, w.heap[n]? = some (.cells ca ta (0, 0))) → ∃ ca ta, w'.heap[n]? = some (.cells ca ta (0, 0)) := fun ⟨ca, ta, e⟩ => ⟨ca, ta, (hb.block _ (block_lt e)).trans e⟩
  exact ⟨c h.cNil, c h.cArg, c h.cAdr, c h.cA, k h.bNil, k h.bArg, k h.bAdr, h.ne1, h.ne2, h.ne3⟩

/-- errors.Is between the package's errors. -/
theorem is_erN {E : EnvN} {w : World} (h : GlobN E w) (e t : ErN) (ht : t ≠ .ok) :
    Calls Tryd.prog 41 #[ErN.val E e, ErN.val E t] w fun r w' => r = .returned (.bool (e == t)) ∧ w = w' := by
  obtain ⟨c0, t0, b0⟩ := h.bNil
  obtain ⟨c1, t1, b1⟩ := h.bArg
  obtain ⟨c2, t2, b2⟩ := h.bAdr
  cases t with
  | ok => exact (ht rfl).elim
  | nil => cases e with
    | ok => exact is_nil _ w
    | nil => exact is_same _ w
    | arg => exact is_other _ _ _ _ _ _ w h.ne1.symm b1 b0
    | adr => exact is_other _ _ _ _ _ _ w h.ne2.symm b2 b0
  | arg => cases e with
    | ok => exact is_nil _ w
    | nil => exact is_other _ _ _ _ _ _ w h.ne1 b0 b1
    | arg => exact is_same _ w
    | adr => exact is_other _ _ _ _ _ _ w h.ne3.symm b2 b1
  | adr => cases e with
    | ok => exact is_nil _ w
    | nil => exact is_other _ _ _ _ _ _ w h.ne2 b0 b2
    | arg => exact is_other _ _ _ _ _ _ w h.ne3 b1 b2
    | adr => exact is_same _ w

theorem told_N {E : EnvN} {w : World} (h : GlobN E w) (e : ErN) :
    Calls Tryd.prog 28 #[ErN.val E e] w fun r w' => r = .returned (.int .i64 e.code) ∧ w = w' := by
  have k0 := h.cNil
  have k1 := h.cArg
  have k2 := h.cAdr
  have H0 := is_erN h e .nil (by decide)
  have H1 := is_erN h e .arg (by decide)
  have H2 := is_erN h e .adr (by decide)
  clear h
  cases e
  · go_enter Tryd.func28, Tryd.ntmps28
    go_wp2_with fail
    refine H0.mono ?_
    rintro r w' ⟨rfl, rfl⟩
    go_wp2_with fail
    refine H1.mono ?_
    rintro r w' ⟨rfl, rfl⟩
    go_wp2_with fail
    refine H2.mono ?_
    rintro r w' ⟨rfl, rfl⟩
    go_wp2
    go_ret
    exact ⟨rfl, rfl⟩
  · go_enter Tryd.func28, Tryd.ntmps28
    go_wp2_with fail
    refine H0.mono ?_
    rintro r w' ⟨rfl, rfl⟩
    go_wp2
    go_ret
    exact ⟨rfl, rfl⟩
  · go_enter Tryd.func28, Tryd.ntmps28
    go_wp2_with fail
    refine H0.mono ?_
    rintro r w' ⟨rfl, rfl⟩
    go_wp2_with fail
    refine H1.mono ?_
    rintro r w' ⟨rfl, rfl⟩
    go_wp2
    go_ret
    exact ⟨rfl, rfl⟩
  · go_enter Tryd.func28, Tryd.ntmps28
    go_wp2_with fail
    refine H0.mono ?_
    rintro r w' ⟨rfl, rfl⟩
    go_wp2_with fail
    refine H1.mono ?_
    rintro r w' ⟨rfl, rfl⟩
    go_wp2_with fail
    refine H2.mono ?_
    rintro r w' ⟨rfl, rfl⟩
    go_wp2
    go_ret
    exact ⟨rfl, rfl⟩

/-- addr's told at its first error. -/
theorem told_A {w : World} {a : Addr} (hA : w.cell? ⟨1, 0, none⟩ = some (.iface 96 (.pointer (some a)))) (b cap : Nat) (hc : w.cell? ⟨b, 0, none⟩ = some (.iface 96 (.pointer (some a)))) :
    Calls Tryd.prog 40 #[.slice (some ⟨b, 0, none⟩) 1 cap] w fun r w' => r = .returned (.int .i64 10) ∧ w = w' := by
  have H := is_same a w
  go_enter Tryd.func40, Tryd.ntmps40
  go_wp2
  refine wp_loop_rounds 2 ?_
  rw [rounds_succ]
  go_wp2_with fail
  refine H.mono ?_
  rintro r w' ⟨rfl, rfl⟩
  go_wp2
  go_ret
  exact ⟨rfl, rfl⟩

theorem keepN {W w w' : World} {g : Nat} {v : Value} (hb : Below w.heap.size w w') (h : w.cell? ⟨g, 0, none⟩ = some v ∧ Below W.heap.size W w) : w'.cell? ⟨g, 0, none⟩ = some v ∧ Below W.heap.size W w' :=
  ⟨(hb.cell (p := ⟨g, 0, none⟩) (cell_lt h.1)).trans h.1, h.2.trans (hb.mono h.2.size)⟩
theorem keepN0 {W : World} {g : Nat} {v : Value} (h : W.cell? ⟨g, 0, none⟩ = some v) : W.drew.cell? ⟨g, 0, none⟩ = some v ∧ Below W.heap.size W W.drew := ⟨h, (Below.refl _ _).drew⟩

set_option maxHeartbeats 1000000 in
theorem join_N {w : World} {ad : Addr} (k0 : w.cell? ⟨1, 0, none⟩ = some (.iface 96 (.pointer (some ad)))) (a b c : Int) :
    Calls Tryd.prog 27 #[.int .i64 a, .int .i64 b, .int .i64 c] w fun r w' => r = .returned (.tuple (if oneB a b c then #[.int .i64 ((a * 32 + b) * 128 + c), .int .i64 0] else #[.int .i64 0, .int .i64 10])) ∧ Below w.heap.size w w' := by
  by_cases ho : oneB a b c = true
  · have ho' := ho
    simp only [oneB, decide_eq_true_eq] at ho'
    obtain ⟨h1, h2, h3, h4, h5, h6⟩ := ho'
    rw [ho]
    go_enter Tryd.func27, Tryd.ntmps27
    go_wp2
    go_region_held3 (fun w' => w'.cell? ⟨1, 0, none⟩ = some (.iface 96 (.pointer (some ad))) ∧ Below w.heap.size w w') (first | assumption | exact keepN0 k0 | (apply keepN; assumption; first | assumption | exact keepN0 k0))
      (first | (go_at_call 39; refine (isOne_any _ _ _ _).mono ?_; rintro e w' ⟨rfl, hb⟩) | (go_at_call 38; refine (unless_true _ _).mono ?_; rintro e w' ⟨rfl, rfl⟩))
    rename_i hH
    obtain ⟨-, hB⟩ := hH
    go_wp2
    go_ret2
    exact ⟨rfl, hB⟩
  · have ho2 : oneB a b c = false := by simpa using ho
    rw [ho2]
    go_enter Tryd.func27, Tryd.ntmps27
    go_wp2
    go_region_held3 (fun w' => w'.cell? ⟨1, 0, none⟩ = some (.iface 96 (.pointer (some ad))) ∧ Below w.heap.size w w') (first | assumption | exact keepN0 k0 | (apply keepN; assumption; first | assumption | exact keepN0 k0))
      (first | (go_at_call 39; refine (isOne_any _ _ _ _).mono ?_; rintro e w' ⟨rfl, hb⟩) | (go_at_call 38; refine (unless_false _ _).mono ?_; rintro e w' ⟨rfl, rfl⟩))
    rename_i hH
    obtain ⟨hc, hB⟩ := hH
    obtain ⟨wx, hwx⟩ : ∃ wx, wx = (World.drew w) := ⟨_, rfl⟩
    go_wp2_with fail
    refine (told_A (a := ad) ?_ _ _ ?_).mono ?_
    · exact ((Below.refl _ _).alloc (Nat.le_refl _) _ |>.cell (p := ⟨1, 0, none⟩) (cell_lt hc)).trans hc
    · exact cells_cell (World.alloc_heap_new _ _) rfl
    rintro r w' ⟨rfl, rfl⟩
    go_wp2
    go_ret2
    exact ⟨rfl, hB.alloc hB.size _⟩
end Go.Proofs.YtjoghbpekpgkpaaDoor

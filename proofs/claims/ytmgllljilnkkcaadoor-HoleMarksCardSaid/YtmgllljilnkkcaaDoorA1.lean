/- Layer addr: what the package's small functions come to: contracts. -/
import Derived.Test.YtmgllljilnkkcaaDoorIs
import Derived.Test.YtmgllljilnkkcaaDoorRf
import Derived.WalkSpells
import Derived.WalkLawsBesides
import Derived.BigQuiet
import Derived.Deep.QuietTactic
import Derived.Deep.RegionHeld3
import Derived.Deep.DrawnRows
namespace Go.Proofs.YtmgllljilnkkcaaDoor
open Go.RowKit

/-- Where the package's sentinels lie. -/
structure Env where
  aAddr : Addr
  aSize : Addr
  aRef : Addr

/-- An error of the package's, or none. -/
inductive Er where
  | ok | addr | size | ref
deriving DecidableEq
def Er.val (E : Env) : Er → Value
  | .ok => .nilIface
  | .addr => .iface 103 (.pointer (some E.aAddr))
  | .size => .iface 103 (.pointer (some E.aSize))
  | .ref => .iface 103 (.pointer (some E.aRef))
def Er.code : Er → Int
  | .ok => 0 | .addr => 10 | .size => 11 | .ref => 12

/-- The package's variables, as the call finds them. -/
structure Glob (E : Env) (w : World) : Prop where
  size : 6 ≤ w.heap.size
  cAddr : w.cell? ⟨4, 0, none⟩ = some (Er.val E .addr)
  cSize : w.cell? ⟨3, 0, none⟩ = some (Er.val E .size)
  cRef : w.cell? ⟨5, 0, none⟩ = some (Er.val E .ref)
  bAddr : ∃ ca ta, w.heap[E.aAddr.block]? = some (.cells ca ta (0, 0))
  bSize : ∃ ca ta, w.heap[E.aSize.block]? = some (.cells ca ta (0, 0))
  bRef : ∃ ca ta, w.heap[E.aRef.block]? = some (.cells ca ta (0, 0))
  ne1 : E.aAddr ≠ E.aSize
  ne2 : E.aAddr ≠ E.aRef
  ne3 : E.aSize ≠ E.aRef
  t0 : w.cell? ⟨2, 0, none⟩ = some (.int .i64 1)
  t1 : w.cell? ⟨2, 1, none⟩ = some (.int .i64 128)
  t2 : w.cell? ⟨2, 2, none⟩ = some (.int .i64 2)
  t3 : w.cell? ⟨2, 3, none⟩ = some (.int .i64 2048)
  t4 : w.cell? ⟨2, 4, none⟩ = some (.int .i64 3)
  t5 : w.cell? ⟨2, 5, none⟩ = some (.int .i64 131072)

theorem Glob.below {E : Env} {w w' : World} (h : Glob E w) (hb : Below w.heap.size w w') : Glob E w' := by
  have hs := h.size
  have c : ∀ g o, g < 6 → w'.cell? ⟨g, o, none⟩ = w.cell? ⟨g, o, none⟩ := fun g o hg => hb.cell (p := ⟨g, o, none⟩) (by simp; omega)
  have k : ∀ {n : Nat}, (∃ ca ta, w.heap[n]? = some (.cells ca ta (0, 0))) → ∃ ca ta, w'.heap[n]? = some (.cells ca ta (0, 0)) := fun ⟨ca, ta, e⟩ => ⟨ca, ta, (hb.block _ (block_lt e)).trans e⟩
  exact ⟨Nat.le_trans h.size hb.size, (c _ _ (by decide)).trans h.cAddr, (c _ _ (by decide)).trans h.cSize, (c _ _ (by decide)).trans h.cRef, k h.bAddr, k h.bSize, k h.bRef, h.ne1, h.ne2, h.ne3,
    (c _ _ (by decide)).trans h.t0, (c _ _ (by decide)).trans h.t1, (c _ _ (by decide)).trans h.t2, (c _ _ (by decide)).trans h.t3, (c _ _ (by decide)).trans h.t4, (c _ _ (by decide)).trans h.t5⟩

/-- errors.Is between the package's errors. -/
theorem is_er {E : Env} {w : World} (h : Glob E w) (e t : Er) (ht : t ≠ .ok) :
    Calls Tryd.prog 27 #[Er.val E e, Er.val E t] w fun r w' => r = .returned (.bool (e == t)) ∧ w = w' := by
  obtain ⟨c0, t0, b0⟩ := h.bAddr
  obtain ⟨c1, t1, b1⟩ := h.bSize
  obtain ⟨c2, t2, b2⟩ := h.bRef
  cases t with
  | ok => exact (ht rfl).elim
  | addr => cases e with
    | ok => exact is_nil _ w
    | addr => exact is_same _ w
    | size => exact is_other _ _ _ _ _ _ w h.ne1.symm b1 b0
    | ref => exact is_other _ _ _ _ _ _ w h.ne2.symm b2 b0
  | size => cases e with
    | ok => exact is_nil _ w
    | addr => exact is_other _ _ _ _ _ _ w h.ne1 b0 b1
    | size => exact is_same _ w
    | ref => exact is_other _ _ _ _ _ _ w h.ne3.symm b2 b1
  | ref => cases e with
    | ok => exact is_nil _ w
    | addr => exact is_other _ _ _ _ _ _ w h.ne2 b0 b2
    | size => exact is_other _ _ _ _ _ _ w h.ne3 b1 b2
    | ref => exact is_same _ w

def rightB (a : Int) : Bool := decide (0 ≤ a) && decide (a < 131072)
theorem unless_true (v : Value) (w : World) : Calls Tryd.prog 40 #[.bool true, v] w fun r w' => r = .returned .nilIface ∧ w = w' := by
  go_enter Tryd.func40, Tryd.ntmps40
  go_wp2
  go_ret
  exact ⟨rfl, rfl⟩
theorem unless_false (v : Value) (w : World) : Calls Tryd.prog 40 #[.bool false, v] w fun r w' => r = .returned v ∧ w = w' := by
  go_enter Tryd.func40, Tryd.ntmps40
  go_wp2
  go_ret
  exact ⟨rfl, rfl⟩

/-- The number of the first error that there is. -/
def toldE : List Er → Int
  | [] => 0
  | .ok :: l => toldE l
  | e :: _ => e.code
theorem toldE_at (l : List Er) (k : Nat) (hk : k < l.length) (hp : ∀ j, j < k → l.getD j .ok = .ok) (hn : l.getD k .ok ≠ .ok) : toldE l = (l.getD k .ok).code := by
  induction l generalizing k with
  | nil => simp at hk
  | cons e l ih =>
    cases k with
    | zero => cases e <;> simp_all [toldE]
    | succ k =>
      have h0 := hp 0 (by omega)
      simp at h0
      subst h0
      exact ih k (by simpa using hk) (fun j hj => by simpa using hp (j + 1) (by omega)) (by simpa using hn)
theorem toldE_none (l : List Er) (hp : ∀ j, j < l.length → l.getD j .ok = .ok) : toldE l = 0 := by
  induction l with
  | nil => rfl
  | cons e l ih =>
    have h0 := hp 0 (by simp)
    simp at h0
    subst h0
    exact ih fun j hj => by simpa using hp (j + 1) (by simpa using hj)

theorem ret_int {k : IntKind} {a b : Int} (h : a = b) : Ending.returned (.int k a) = .returned (.int k b) := by rw [h]
theorem told_any {E : Env} {w : World} (h : Glob E w) (l : List Er) (hl : l.length ≤ 1000) (b cap : Nat) (hc : ∀ i, i < l.length → w.cell? ⟨b, i, none⟩ = some (Er.val E (l.getD i .ok))) :
    Calls Tryd.prog 38 #[.slice (some ⟨b, 0, none⟩) l.length cap] w fun r w' => r = .returned (.int .i64 (toldE l)) ∧ w = w' := by
  have k0 := h.cAddr
  have k2 := h.cSize
  have k3 := h.cRef
  go_enter Tryd.func38, Tryd.ntmps38
  go_wp2
  go_loop [7] (fun i => ∃ k : Nat, k ≤ l.length ∧ i = .int .i64 k ∧ ∀ j, j < k → l.getD j .ok = .ok) (fun i => l.length - (intOf i).toNat)
  case atStart => exact ⟨0, Nat.zero_le _, rfl, fun j hj => by omega⟩
  case round =>
    obtain ⟨k, hk, rfl, hp⟩ := hrel
    have HP : Hid (∀ j, j < k → l.getD j .ok = .ok) := hp
    clear hp
    by_cases hlt : k < l.length
    · have hcell := hc k hlt
      clear hc
      generalize he : l.getD k .ok = e at hcell
      have HE : Hid (l.getD k .ok = e) := he
      clear he
      cases e
      all_goals
        go_wp2_with (go_at_call 27; refine (is_er h _ _ (by decide)).mono ?_; rintro r w' ⟨rfl, rfl⟩)
      · go_round
        case rel => exact ⟨k + 1, by omega, by go_num, fun j hj => by by_cases hjk : j = k; (subst hjk; exact HE.out); exact HP.out j (by omega)⟩
        case measure => simp [intOf]; omega
      all_goals
        go_ret
        exact ⟨ret_int (by rw [toldE_at l k hlt HP.out (by rw [HE.out]; decide), HE.out]; rfl), rfl⟩
    · clear hc
      have hle : l.length ≤ k := by omega
      go_wp2
      go_ret
      exact ⟨ret_int (toldE_none l (fun j hj => HP.out j (by omega))).symm, rfl⟩

/-- told at one error, behind the slice's own block. -/
theorem told_one {E : Env} {w : World} (h : Glob E w) (e : Er) (cap : Nat) (t : TypeId) :
    Calls Tryd.prog 38 #[.slice (some ⟨w.heap.size, 0, none⟩) 1 cap] (w.alloc (.cells #[Er.val E e] t)) fun r w' => r = .returned (.int .i64 e.code) ∧ w.alloc (.cells #[Er.val E e] t) = w' := by
  have hG := h.below ((Below.refl w.heap.size w).alloc (Nat.le_refl _) (.cells #[Er.val E e] t))
  refine (told_any hG [e] (by simp) w.heap.size cap ?_).mono ?_
  · intro i hi
    obtain rfl : i = 0 := by simpa using hi
    simp
  · rintro r w' ⟨rfl, rfl⟩
    refine ⟨?_, rfl⟩
    cases e <;> rfl
theorem told_two {E : Env} {w : World} (h : Glob E w) (e f : Er) (cap : Nat) (t : TypeId) :
    Calls Tryd.prog 38 #[.slice (some ⟨w.heap.size, 0, none⟩) 2 cap] (w.alloc (.cells #[Er.val E e, Er.val E f] t)) fun r w' => r = .returned (.int .i64 (toldE [e, f])) ∧ w.alloc (.cells #[Er.val E e, Er.val E f] t) = w' := by
  have hG := h.below ((Below.refl w.heap.size w).alloc (Nat.le_refl _) (.cells #[Er.val E e, Er.val E f] t))
  refine (told_any hG [e, f] (by simp) w.heap.size cap ?_).mono ?_
  · intro i hi
    have : i = 0 ∨ i = 1 := by simp at hi; omega
    rcases this with rfl | rfl <;> simp
  · rintro r w' ⟨rfl, rfl⟩
    exact ⟨rfl, rfl⟩

/-- What a region that draws its order keeps: a variable's cell, all of them, and what lay there. -/
theorem keepS {E : Env} {W w w' : World} {g : Nat} {v : Value} (hb : Below w.heap.size w w') (hg : g < 6) (h : w.cell? ⟨g, 0, none⟩ = some v ∧ Glob E w ∧ Below W.heap.size W w) :
    w'.cell? ⟨g, 0, none⟩ = some v ∧ Glob E w' ∧ Below W.heap.size W w' :=
  ⟨(hb.cell (p := ⟨g, 0, none⟩) (by have := h.2.1.size; simp; omega)).trans h.1, h.2.1.below hb, h.2.2.trans (hb.mono h.2.2.size)⟩
theorem keep0 {E : Env} {W : World} {g : Nat} {v : Value} (h : W.cell? ⟨g, 0, none⟩ = some v) (hG : Glob E W) :
    W.drew.cell? ⟨g, 0, none⟩ = some v ∧ Glob E W.drew ∧ Below W.heap.size W W.drew :=
  ⟨h, hG.below (Below.refl _ _).drew, (Below.refl _ _).drew⟩
end Go.Proofs.YtmgllljilnkkcaaDoor

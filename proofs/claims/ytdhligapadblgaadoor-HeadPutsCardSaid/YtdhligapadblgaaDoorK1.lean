/- Layer head: the package's variables and small functions: contracts. -/
import Derived.Test.YtdhligapadblgaaDoorIs
import Derived.Test.YtdhligapadblgaaDoorRf
import Derived.Test.YtdhligapadblgaaDoorGv
import Derived.WalkSpells
import Derived.WalkLawsBesides
import Derived.BigQuiet
import Derived.Deep.QuietTactic
import Derived.Deep.RegionHeld3
import Derived.Deep.DrawnRows
import Derived.IntWalk
namespace Go.Proofs.YtdhligapadblgaaDoor
open Go.RowKit
attribute [local go_sem ↓] Go.wp_at_zero Go.wp_at_succ

/-- Where the package's sentinels lie. -/
structure EnvH where
  aNil : Addr
  aHead : Addr
  aAdr : Addr

/-- An error of the package's, or none. -/
inductive ErH where
  | ok | nil | head | adr
deriving DecidableEq
def ErH.val (E : EnvH) : ErH → Value
  | .ok => .nilIface
  | .nil => .iface 107 (.pointer (some E.aNil))
  | .head => .iface 107 (.pointer (some E.aHead))
  | .adr => .iface 107 (.pointer (some E.aAdr))
def ErH.code : ErH → Int
  | .ok => 0 | .nil => 1 | .head => 60 | .adr => 10

/-- The package's variables, as the call finds them. -/
structure GlobH (E : EnvH) (w : World) : Prop where
  size : 0 < w.heap.size ∧ 1 < w.heap.size ∧ 3 < w.heap.size ∧ 4 < w.heap.size
  cNil : w.cell? ⟨3, 0, none⟩ = some (ErH.val E .nil)
  cHead : w.cell? ⟨0, 0, none⟩ = some (ErH.val E .head)
  cAdr : w.cell? ⟨4, 0, none⟩ = some (ErH.val E .adr)
  bNil : ∃ ca ta, w.heap[E.aNil.block]? = some (.cells ca ta (0, 0))
  bHead : ∃ ca ta, w.heap[E.aHead.block]? = some (.cells ca ta (0, 0))
  bAdr : ∃ ca ta, w.heap[E.aAdr.block]? = some (.cells ca ta (0, 0))
  ne1 : E.aNil ≠ E.aHead
  ne2 : E.aNil ≠ E.aAdr
  ne3 : E.aHead ≠ E.aAdr
  t0 : w.cell? ⟨1, 0, none⟩ = some (.int .i64 1)
  t1 : w.cell? ⟨1, 1, none⟩ = some (.int .i64 60)
  t2 : w.cell? ⟨1, 2, none⟩ = some (.int .i64 1)
  t3 : w.cell? ⟨1, 3, none⟩ = some (.int .i64 1)
  t4 : w.cell? ⟨1, 4, none⟩ = some (.int .i64 3)
  t5 : w.cell? ⟨1, 5, none⟩ = some (.int .i64 1)
  t6 : w.cell? ⟨1, 6, none⟩ = some (.int .i64 0)
  t7 : w.cell? ⟨1, 7, none⟩ = some (.int .i64 255)
  t8 : w.cell? ⟨1, 8, none⟩ = some (.int .i64 1)
  t9 : w.cell? ⟨1, 9, none⟩ = some (.int .i64 0)
  t10 : w.cell? ⟨1, 10, none⟩ = some (.int .i64 40000)
  t11 : w.cell? ⟨1, 11, none⟩ = some (.int .i64 3)

theorem GlobH.below {E : EnvH} {w w' : World} (h : GlobH E w) (hb : Below w.heap.size w w') : GlobH E w' := by
  have hs := h.size
  have c : ∀ g o, g < w.heap.size → w'.cell? ⟨g, o, none⟩ = w.cell? ⟨g, o, none⟩ := fun g o hg => hb.cell (p := ⟨g, o, none⟩) hg
  have k : ∀ {n : Nat}, (∃ ca ta, w.heap[n]? = some (.cells ca ta (0, 0))) → ∃ ca ta, w'.heap[n]? = some (.cells ca ta (0, 0)) := fun ⟨ca, ta, e⟩ => ⟨ca, ta, (hb.block _ (block_lt e)).trans e⟩
  exact ⟨⟨Nat.lt_of_lt_of_le hs.1 hb.size, Nat.lt_of_lt_of_le hs.2.1 hb.size, Nat.lt_of_lt_of_le hs.2.2.1 hb.size, Nat.lt_of_lt_of_le hs.2.2.2 hb.size⟩, (c _ _ hs.2.2.1).trans h.cNil, (c _ _ hs.1).trans h.cHead, (c _ _ hs.2.2.2).trans h.cAdr, k h.bNil, k h.bHead, k h.bAdr, h.ne1, h.ne2, h.ne3, (c _ _ hs.2.1).trans h.t0, (c _ _ hs.2.1).trans h.t1, (c _ _ hs.2.1).trans h.t2, (c _ _ hs.2.1).trans h.t3, (c _ _ hs.2.1).trans h.t4, (c _ _ hs.2.1).trans h.t5, (c _ _ hs.2.1).trans h.t6, (c _ _ hs.2.1).trans h.t7, (c _ _ hs.2.1).trans h.t8, (c _ _ hs.2.1).trans h.t9, (c _ _ hs.2.1).trans h.t10, (c _ _ hs.2.1).trans h.t11⟩

/-- errors.Is between the package's errors. -/
theorem is_erH {E : EnvH} {w : World} (h : GlobH E w) (e t : ErH) (ht : t ≠ .ok) :
    Calls Tryd.prog 43 #[ErH.val E e, ErH.val E t] w fun r w' => r = .returned (.bool (e == t)) ∧ w = w' := by
  obtain ⟨c0, t0, b0⟩ := h.bNil
  obtain ⟨c1, t1, b1⟩ := h.bHead
  obtain ⟨c2, t2, b2⟩ := h.bAdr
  cases t with
  | ok => exact (ht rfl).elim
  | nil => cases e with
    | ok => exact is_nil _ w
    | nil => exact is_same _ w
    | head => exact is_other _ _ _ _ _ _ w h.ne1.symm b1 b0
    | adr => exact is_other _ _ _ _ _ _ w h.ne2.symm b2 b0
  | head => cases e with
    | ok => exact is_nil _ w
    | nil => exact is_other _ _ _ _ _ _ w h.ne1 b0 b1
    | head => exact is_same _ w
    | adr => exact is_other _ _ _ _ _ _ w h.ne3.symm b2 b1
  | adr => cases e with
    | ok => exact is_nil _ w
    | nil => exact is_other _ _ _ _ _ _ w h.ne2 b0 b2
    | head => exact is_other _ _ _ _ _ _ w h.ne3 b1 b2
    | adr => exact is_same _ w

/-- The number of the first error that there is. -/
def toldH : List ErH → Int
  | [] => 0
  | .ok :: l => toldH l
  | e :: _ => e.code
theorem toldH_at (l : List ErH) (k : Nat) (hk : k < l.length) (hp : ∀ j, j < k → l.getD j ErH.ok = ErH.ok) (hn : l.getD k ErH.ok ≠ ErH.ok) : toldH l = (l.getD k ErH.ok).code := by
  induction l generalizing k with
  | nil => simp at hk
  | cons e l ih =>
    cases k with
    | zero => cases e <;> simp_all [toldH]
    | succ k =>
      have h0 := hp 0 (by omega)
      simp at h0
      subst h0
      exact ih k (by simpa using hk) (fun j hj => by simpa using hp (j + 1) (by omega)) (by simpa using hn)
theorem toldH_none (l : List ErH) (hp : ∀ j, j < l.length → l.getD j ErH.ok = ErH.ok) : toldH l = 0 := by
  induction l with
  | nil => rfl
  | cons e l ih =>
    have h0 := hp 0 (by simp)
    simp at h0
    subst h0
    exact ih fun j hj => by simpa using hp (j + 1) (by simpa using hj)

theorem ret_intH {k : IntKind} {a b : Int} (h : a = b) : Ending.returned (.int k a) = .returned (.int k b) := by rw [h]
theorem told_anyH {E : EnvH} {w : World} (h : GlobH E w) (l : List ErH) (hl : l.length ≤ 1000) (b cap : Nat) (hc : ∀ i, i < l.length → w.cell? ⟨b, i, none⟩ = some (ErH.val E (l.getD i ErH.ok))) :
    Calls Tryd.prog 30 #[.slice (some ⟨b, 0, none⟩) l.length cap] w fun r w' => r = .returned (.int .i64 (toldH l)) ∧ w = w' := by
  have k0 := h.cNil
  have k2 := h.cHead
  have k3 := h.cAdr
  go_enter Tryd.func30, Tryd.ntmps30
  go_wp2
  go_loop [7] (fun i => ∃ k : Nat, k ≤ l.length ∧ i = .int .i64 k ∧ ∀ j, j < k → l.getD j ErH.ok = ErH.ok) (fun i => l.length - (intOf i).toNat)
  case atStart => exact ⟨0, Nat.zero_le _, rfl, fun j hj => by omega⟩
  case round =>
    obtain ⟨k, hk, rfl, hp⟩ := hrel
    have HP : Hid (∀ j, j < k → l.getD j ErH.ok = ErH.ok) := hp
    clear hp
    by_cases hlt : k < l.length
    · have hcell := hc k hlt
      clear hc
      generalize he : l.getD k ErH.ok = e at hcell
      have HE : Hid (l.getD k ErH.ok = e) := he
      clear he
      cases e
      all_goals
        go_wp2_with (go_at_call 43; refine (is_erH h _ _ (by decide)).mono ?_; rintro r w' ⟨rfl, rfl⟩)
      · go_round
        case rel => exact ⟨k + 1, by omega, by go_num, fun j hj => by by_cases hjk : j = k; (subst hjk; exact HE.out); exact HP.out j (by omega)⟩
        case measure => simp [intOf]; omega
      all_goals
        go_ret
        exact ⟨ret_intH (by rw [toldH_at l k hlt HP.out (by rw [HE.out]; decide), HE.out]; rfl), rfl⟩
    · clear hc
      have hle : l.length ≤ k := by omega
      go_wp2
      go_ret
      exact ⟨ret_intH (toldH_none l (fun j hj => HP.out j (by omega))).symm, rfl⟩

/-- told at one error, behind the slice's own block. -/
theorem told_oneH {E : EnvH} {w : World} (h : GlobH E w) (e : ErH) (cap : Nat) (t : TypeId) :
    Calls Tryd.prog 30 #[.slice (some ⟨w.heap.size, 0, none⟩) 1 cap] (w.alloc (.cells #[ErH.val E e] t)) fun r w' => r = .returned (.int .i64 e.code) ∧ w.alloc (.cells #[ErH.val E e] t) = w' := by
  have hG := h.below ((Below.refl w.heap.size w).alloc (Nat.le_refl _) (.cells #[ErH.val E e] t))
  refine (told_anyH hG [e] (by simp) w.heap.size cap ?_).mono ?_
  · intro i hi
    obtain rfl : i = 0 := by simpa using hi
    simp
  · rintro r w' ⟨rfl, rfl⟩
    refine ⟨?_, rfl⟩
    cases e <;> rfl
theorem told_twoH {E : EnvH} {w : World} (h : GlobH E w) (e f : ErH) (cap : Nat) (t : TypeId) :
    Calls Tryd.prog 30 #[.slice (some ⟨w.heap.size, 0, none⟩) 2 cap] (w.alloc (.cells #[ErH.val E e, ErH.val E f] t)) fun r w' => r = .returned (.int .i64 (toldH [e, f])) ∧ w.alloc (.cells #[ErH.val E e, ErH.val E f] t) = w' := by
  have hG := h.below ((Below.refl w.heap.size w).alloc (Nat.le_refl _) (.cells #[ErH.val E e, ErH.val E f] t))
  refine (told_anyH hG [e, f] (by simp) w.heap.size cap ?_).mono ?_
  · intro i hi
    have : i = 0 ∨ i = 1 := by simp at hi; omega
    rcases this with rfl | rfl <;> simp
  · rintro r w' ⟨rfl, rfl⟩
    exact ⟨rfl, rfl⟩


/-- Is a number one of a part? -/
def hasP (a b n : Int) : Bool := decide (a ≤ n) && decide (n ≤ b)
theorem has_anyH (a b c n : Int) (w : World) : Calls Tryd.prog 34 #[.agg #[.int .i64 a, .int .i64 b, .int .i64 c], .int .i64 n] w fun r w' => r = .returned (.bool (hasP a b n)) ∧ Below w.heap.size w w' := by
  obtain ⟨w1, hw1, a0, a1, a2⟩ := allocs1 w (.cells #[.int .i64 a, .int .i64 b, .int .i64 c] 69)
  have c0 := cells_cell (i := 0) a2 (v := .int .i64 a) rfl
  have c1 := cells_cell (i := 1) a2 (v := .int .i64 b) rfl
  unfold hasP
  cases h : decide (a ≤ n) with
  | false =>
    go_enter Tryd.func34, Tryd.ntmps34
    go_wp2
    go_ret
    exact ⟨rfl, a0⟩
  | true =>
    go_enter Tryd.func34, Tryd.ntmps34
    go_wp2
    go_ret
    exact ⟨by first | rfl | simp, a0⟩

def turnI (e : Int) : Int := bif hasP 0 255 e then (e + 1) % 256 else 0
theorem turn_anyH {E : EnvH} {w : World} (h : GlobH E w) (e : Int) : Calls Tryd.prog 17 #[.int .i64 e] w fun r w' => r = .returned (.int .i64 (turnI e)) ∧ Below w.heap.size w w' := by
  have H := has_anyH 0 255 1 e w
  have c0 := h.t6
  have c1 := h.t7
  have c2 := h.t8
  unfold turnI
  cases hp : hasP 0 255 e with
  | false =>
    rw [hp] at H
    clear h
    go_enter Tryd.func17, Tryd.ntmps17
    go_wp2_with fail
    refine H.mono ?_
    rintro r w' ⟨rfl, hb⟩
    clear H
    go_wp2
    go_ret
    exact ⟨rfl, hb⟩
  | true =>
    rw [hp] at H
    have hp2 := hp
    unfold hasP at hp2
    rw [Bool.and_eq_true, decide_eq_true_iff, decide_eq_true_iff] at hp2
    have iw : IntKind.i64.wrap (e + 1) = e + 1 := IntWalk.i64_in _ (by omega)
    have it : (e + 1).tmod 256 = (e + 1) % 256 := Int.tmod_eq_emod_of_nonneg (by omega)
    clear h hp hp2
    go_enter Tryd.func17, Tryd.ntmps17
    go_wp2_with fail
    refine H.mono ?_
    rintro r w' ⟨rfl, hb⟩
    clear H
    go_wp2
    go_ret
    exact ⟨by first | rfl | (simp [it]), hb⟩
end Go.Proofs.YtdhligapadblgaaDoor

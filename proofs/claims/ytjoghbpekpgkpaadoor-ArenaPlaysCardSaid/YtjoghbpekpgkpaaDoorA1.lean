/- Layer addr: what the package's small functions come to: contracts. -/
import Derived.Test.YtjoghbpekpgkpaaDoorIs
import Derived.Test.YtjoghbpekpgkpaaDoorRf
import Derived.WalkSpells
import Derived.WalkLawsBesides
import Derived.BigQuiet
import Derived.Deep.QuietTactic
import Derived.Deep.RegionHeld3
import Derived.Deep.DrawnRows
namespace Go.Proofs.YtjoghbpekpgkpaaDoor
open Go.RowKit

/-- Where the package's sentinels lie. -/
structure Env where
  aAddr : Addr
  aSize : Addr
  aRef : Addr

/-- An error of the package's, or none. -/
inductive Er where
  | ok | addr | size | ref
deriving DecidableEq
def Er.val (E : Env) : Er → Value
  | .ok => .nilIface
  | .addr => .iface 96 (.pointer (some E.aAddr))
  | .size => .iface 96 (.pointer (some E.aSize))
  | .ref => .iface 96 (.pointer (some E.aRef))
def Er.code : Er → Int
  | .ok => 0 | .addr => 10 | .size => 11 | .ref => 12

def rightB (a : Int) : Bool := decide (0 ≤ a) && decide (a < 131072)
theorem unless_true (v : Value) (w : World) : Calls Tryd.prog 38 #[.bool true, v] w fun r w' => r = .returned .nilIface ∧ w = w' := by
  go_enter Tryd.func38, Tryd.ntmps38
  go_wp2
  go_ret
  exact ⟨rfl, rfl⟩
theorem unless_false (v : Value) (w : World) : Calls Tryd.prog 38 #[.bool false, v] w fun r w' => r = .returned v ∧ w = w' := by
  go_enter Tryd.func38, Tryd.ntmps38
  go_wp2
  go_ret
  exact ⟨rfl, rfl⟩

/-- The number of the first error that there is. -/
def toldE : List Er → Int
  | [] => 0
  | .ok :: l => toldE l
  | e :: _ => e.code
theorem toldE_at (l : List Er) (k : Nat) (hk : k < l.length) (hp : ∀ j, j < k → l.getD j .ok = .ok) (hn : l.getD k .ok ≠ .ok) : toldE l = (l.getD k .ok).code := by
  induction l generalizing k with
  | nil => simp at hk
  | cons e l ih =>
    cases k with
    | zero => cases e <;> simp_all [toldE]
    | succ k =>
      have h0 := hp 0 (by omega)
      simp at h0
      subst h0
      exact ih k (by simpa using hk) (fun j hj => by simpa using hp (j + 1) (by omega)) (by simpa using hn)
theorem toldE_none (l : List Er) (hp : ∀ j, j < l.length → l.getD j .ok = .ok) : toldE l = 0 := by
  induction l with
  | nil => rfl
  | cons e l ih =>
    have h0 := hp 0 (by simp)
    simp at h0
    subst h0
    exact ih fun j hj => by simpa using hp (j + 1) (by simpa using hj)

theorem ret_int {k : IntKind} {a b : Int} (h : a = b) : Ending.returned (.int k a) = .returned (.int k b) := by rw [h]
end Go.Proofs.YtjoghbpekpgkpaaDoor

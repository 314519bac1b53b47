/- A scope whose label lies ahead of every goto, in the plain walk. Of no one program. -/
import Derived.Test.YtlncilcoohmlkaaDoorRf
namespace Go.Proofs.YtlncilcoohmlkaaDoor
open Go Go.RowKit
variable {P : Program} {Q : Exit → Act → World → Prop} {a : Act} {w : World}

def Exit.aheadP (P : Program) (l : Nat) (rest : Code) (Q : Exit → Act → World → Prop) : Exit → Act → World → Prop
  | .goto l', a, w => l' = l ∧ rest.wp P (Exit.noGoto Q) a w
  | e, a, w => Q e a w
theorem Exit.aheadP_ret {l : Nat} {rest : Code} : Exit.aheadP P l rest Q .ret = Q .ret := rfl
theorem wp_scope_ahead {c rest : Code} (l : Nat) (hf : findLabel c l = some rest) (h : c.wp P (Exit.aheadP P l rest Q) a w) : (Code.scope c).wp P Q a w := by
  refine (wpIn_wide (n := 10)).1 (wpIn_scope_ahead l hf (wpIn_mono ((wpIn_wide (n := 10)).2 h) ?_))
  intro e a w hq
  cases e with
  | goto l' => exact ⟨hq.1, (wpIn_wide (n := 10)).2 hq.2⟩
  | normal => exact hq
  | exit id => exact hq
  | ret => exact hq
  | panic ch => exact hq
  | outgrown => exact hq
end Go.Proofs.YtlncilcoohmlkaaDoor

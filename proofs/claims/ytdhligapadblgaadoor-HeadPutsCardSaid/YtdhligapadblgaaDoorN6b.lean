/- Layer arena: Load, in all cases. -/
import Derived.Test.YtdhligapadblgaaDoorN6
namespace Go.Proofs.YtdhligapadblgaaDoor
open Go Go.RowKit Go.Shelf
attribute [local go_sem ↓] Go.wp_at_zero Go.wp_at_succ
end Go.Proofs.YtdhligapadblgaaDoor

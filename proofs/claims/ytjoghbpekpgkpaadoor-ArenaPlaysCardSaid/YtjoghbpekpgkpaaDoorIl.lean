/- A list of integers as a slice's cells. Of no one program. -/
import Derived.Test.YtjoghbpekpgkpaaDoorRf
import Derived.Lib.Hide
namespace Go.Proofs.YtjoghbpekpgkpaaDoor
open Go Go.RowKit

/-- The slice v holds the integers l. -/
inductive IntsV (w : World) : Value → List Int → Prop where
  | some (b off cap : Nat) (l : List Int) (hl : l.length ≤ cap) (hm : cap ≤ 9223372036854775807) (hc : ∀ i, i < l.length → w.cell? ⟨b, off + i, none⟩ = some (.int .i64 (l.getD i 0))) : IntsV w (.slice (some ⟨b, off, none⟩) l.length cap) l
  | empty (a : Option Addr) (cap : Nat) : IntsV w (.slice a 0 cap) []

theorem cell_lt {w : World} {p : Addr} {v : Value} (h : w.cell? p = some v) : p.block < w.heap.size := by
  unfold World.cell? at h
  cases hb : w.heap[p.block]? with
  | none => simp [hb] at h
  | some o => exact block_lt hb

theorem IntsV.below {w w' : World} {v : Value} {l : List Int} (h : IntsV w v l) (hb : Below w.heap.size w w') : IntsV w' v l := by
  cases h with
  | some b off cap l hl hm hc => exact .some b off cap l hl hm fun i hi => (hb.cell (p := ⟨b, off + i, none⟩) (cell_lt (hc i hi))).trans (hc i hi)
  | empty a cap => exact .empty a cap

theorem IntsV.slice {w : World} {v : Value} {l : List Int} (h : IntsV w v l) : ∃ a cap, v = .slice a l.length cap := by
  cases h with
  | some b off cap l hl hm hc => exact ⟨_, _, rfl⟩
  | empty a cap => exact ⟨_, _, rfl⟩
end Go.Proofs.YtjoghbpekpgkpaaDoor

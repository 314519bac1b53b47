/- Layer arena: shown. -/
import Derived.Test.YtjoghbpekpgkpaaDoorN8
namespace Go.Proofs.YtjoghbpekpgkpaaDoor
open Go Go.RowKit Go.Shelf
attribute [local go_sem ↓] Go.wp_at_zero Go.wp_at_succ

/-- An arena of the call's own, behind the world that the call found. -/
structure St (E : EnvN) (w : World) (p g n : Nat) (f : Nat → Nat) (W : World) : Prop where
  below : Below w.heap.size w W
  glob : GlobN E W
  arena : ArenaV W p g n f
  hp : w.heap.size ≤ p
  hg : w.heap.size ≤ g
theorem St.read {E : EnvN} {w : World} {p g n : Nat} {f : Nat → Nat} {W W' : World} (h : St E w p g n f W) (hb : Below W.heap.size W W') : St E w p g n f W' :=
  ⟨blN h.below hb, h.glob.below hb, h.arena.next hb, h.hp, h.hg⟩
theorem St.write {E : EnvN} {w : World} {p g n : Nat} {f f' : Nat → Nat} {W W' : World} (h : St E w p g n f W) (hw : GlobN E w) (hA : ArenaV W' p g n f') (hb : W.grownBy W' (some g)) : St E w p g n f' W' :=
  have hB := below_grown h.below h.below.size h.hg hb
  ⟨hB, hw.below hB, hA, h.hp, h.hg⟩

/-- Beyond a place all are 0: no more are counted. -/
theorem cntP_zero {f : Nat → Nat} {a : Nat} (h : ∀ j, a ≤ j → f j = 0) : ∀ k, cntP f (a + k) = cntP f a
  | 0 => rfl
  | k + 1 => by
    rw [← Nat.add_assoc, cntP, cntP_zero h k, h _ (Nat.le_add_right _ _)]
    rfl
theorem shownCount : cntP (putF 8192 (storeF 8192 (fun _ => 0) 8 258) 0 256) 8192 = 2 := by
  have e : putF 8192 (storeF 8192 (fun _ => 0) 8 258) 0 256 = storeP (fun _ => 0) 8 258 4 := by
    have h1 : okPut 8192 0 256 = false := by decide
    have h2 : okW 8192 8 = true := by decide
    unfold putF storeF
    rw [h1, h2]
    rfl
  rw [e]
  have h : ∀ j, 12 ≤ j → storeP (fun _ => 0) 8 258 4 j = 0 := fun j hj => by unfold storeP; rw [if_neg (by omega)]
  have := cntP_zero h 8180
  rw [show 12 + 8180 = 8192 from rfl] at this
  rw [this]
  decide
theorem shownB8 : byteA 8192 (storeF 8192 (fun _ => 0) 8 258) 8 = 2 := by decide
theorem shownB9 : byteA 8192 (storeF 8192 (fun _ => 0) 8 258) 9 = 1 := by decide
theorem shownL : errW 8192 8190 = .adr := by decide
theorem shownP : putE 8192 0 256 = 2 := by decide

set_option maxHeartbeats 2000000 in
set_option maxRecDepth 20000 in
theorem shown_N {E : EnvN} {w : World} (hG : GlobN E w) : Calls Tryd.prog 10 #[] w fun r w' => r = .returned (.bool true) ∧ Below w.heap.size w w' := by
  have m0 := new_yes hG 2 (by decide) (by decide)
  have HG := Lib.hid hG
  clear hG
  go_enter Tryd.func10, Tryd.ntmps10
  go_wp2_with fail
  refine m0.mono ?_
  rintro r w1 ⟨⟨p, g, rfl, hp, hg, hA⟩, hB⟩
  have hS : St E w p g 8192 (fun _ => 0) w1 := ⟨hB, HG.out.below hB, hA, hp, hg⟩
  have m := store_N hS.glob hS.arena 8 258
  rw [errW_ok (show okW 8192 8 = true by decide)] at m
  clear m0 hB hA
  go_wp2_with fail
  refine m.mono ?_
  rintro r w2 ⟨rfl, hA, hb⟩
  replace hS := hS.write HG.out hA hb
  clear m hA hb
  have m := byte_N hS.glob hS.arena 8
  rw [shownB8] at m
  go_wp2_with fail
  refine m.mono ?_
  rintro r w' ⟨rfl, rfl⟩
  clear m
  have m := byte_N hS.glob hS.arena 9
  rw [shownB9] at m
  go_wp2_with fail
  refine m.mono ?_
  rintro r w' ⟨rfl, rfl⟩
  clear m
  have m := load_N hS.glob hS.arena 8190
  rw [shownL] at m
  go_wp2_with fail
  refine m.mono ?_
  rintro r w3 ⟨rfl, hb⟩
  replace hS := hS.read hb
  clear m hb
  have m := put_N hS.glob hS.arena 0 256
  rw [shownP] at m
  go_wp2_with fail
  refine m.mono ?_
  rintro r w4 ⟨rfl, hA, hb⟩
  replace hS := hS.write HG.out hA hb
  clear m hA hb
  have m := size_N hS.arena
  go_wp2_with fail
  refine m.mono ?_
  rintro r w' ⟨rfl, rfl⟩
  clear m
  have m := count_N hS.arena
  rw [shownCount] at m
  go_wp2_with fail
  refine m.mono ?_
  rintro r w5 ⟨rfl, hb⟩
  replace hS := hS.read hb
  have HB := Lib.hid hS.below
  clear m hb hS
  go_wp2
  go_ret
  exact ⟨rfl, HB.out⟩
end Go.Proofs.YtjoghbpekpgkpaaDoor

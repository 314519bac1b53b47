/- Layer arena: do: a call played (printed by wip/mkn12.py). -/
import Derived.Test.YtjoghbpekpgkpaaDoorN11
namespace Go.Proofs.YtjoghbpekpgkpaaDoor
open Go Go.RowKit Go.Shelf
attribute [local go_sem ↓] Go.wp_at_zero Go.wp_at_succ

theorem ArenaV.setC {W : World} {p g n b i : Nat} {f : Nat → Nat} {v : Value} (h : ArenaV W p g n f) (hp : p ≠ b) (hg : g ≠ b) : ArenaV (W.setCell ⟨b, i, none⟩ v) p g n f :=
  ⟨(Below.heap_setCell _ _ _ _ hp).trans h.box, h.arr.same (Below.heap_setCell _ _ _ _ hg), h.ne⟩
theorem grown_fresh {w W : World} {r : Option Nat} {b i : Nat} {v : Value} (h : w.grownBy W r) (hb : w.heap.size ≤ b) : w.grownBy (W.setCell ⟨b, i, none⟩ v) r :=
  ⟨h.os, h.tape, h.output, by show w.heap.size ≤ (W.heap.modify _ _).size; rw [Array.size_modify]; exact h.size, fun k hk hn => (Below.heap_setCell W ⟨b, i, none⟩ v k (by show k ≠ b; omega)).trans (h.block k hk hn)⟩
theorem results_said {fn : Func} {q : Tmp} (h : fn.results = #[.cell q 41]) (tmps : Array Value) (w : World) (g1 : Nat) (x y z u : Value)
    (hp : tmps.getD q undef = .pointer (some ⟨g1, 0, none⟩)) (h1 : w.heap[g1]? = some (.cells #[x, y, z, u] 41 (0, 0))) :
    (results fn tmps).run Tryd.prog w = .ok (.agg #[x, y, z, u]) w := by
  have hi : (Tryd.prog.info? 41).map (·.size) = some 4 := by kernel_rfl
  have e1 := run_loadVar_row w g1 41 41 #[x, y, z, u] (0, 0) _ h1 Tryd.underlying41 rfl hi
  simp at hp
  simp [results, h, hp, asAddr, e1]

/-- What a call answers, what it leaves. -/
def doI (n : Nat) (f : Nat → Nat) (x : XOp) : Int := if x.kind = 2 then ((byteA n f x.pl : Nat) : Int) else 0
def doV (n : Nat) (f : Nat → Nat) (x : XOp) : Nat := if x.kind = 0 then loadN n f x.pl else 0
def doS (n : Nat) (f : Nat → Nat) (x : XOp) : ByteArray := if x.kind = 4 then readN n f x.pl x.num else ⟨#[]⟩
def doE (n : Nat) (x : XOp) : Int :=
  if x.kind = 0 ∨ x.kind = 1 then (errW n x.pl).code else if x.kind = 2 then (chkN n x.pl 1).code else if x.kind = 3 then putE n x.pl x.num else if x.kind = 4 ∨ x.kind = 6 then (chkN n x.pl x.num).code else if x.kind = 5 then (chkN n x.pl x.s.size).code else 0
def doF (n : Nat) (f : Nat → Nat) (x : XOp) : Nat → Nat :=
  if x.kind = 1 then storeF n f x.pl x.v else if x.kind = 3 then putF n f x.pl x.num else if x.kind = 5 then writeF n f x.pl x.s else if x.kind = 6 then zeroF n f x.pl x.num else f

set_option maxHeartbeats 2000000 in
set_option maxRecDepth 20000 in
theorem do_0 {E : EnvN} {w : World} {p g n : Nat} {f : Nat → Nat} (hG : GlobN E w) (hA : ArenaV w p g n f) (x : XOp) (hk : x.kind = 0) :
    Calls Tryd.prog 19 #[.pointer (some ⟨p, 0, none⟩), x.val] w fun r w' => r = .returned (.agg #[.int .i64 0, .int .u32 ((loadN n f x.pl : Nat) : Int), .string ⟨#[]⟩, .int .i64 ((errW n x.pl).code)]) ∧ ArenaV w' p g n (f) ∧ w.grownBy w' (some g) := by
  obtain ⟨w1, hw1, a0, a1, b0, b1, b2⟩ := allocs3 w (.cells #[.int .i64 x.kind, .int .i64 x.pl, .int .i64 x.num, .int .u32 (x.v : Int), .string x.s] 44) (.cells #[.int .i64 0, .int .u32 0, .string ⟨#[]⟩, .int .i64 0] 41) (.cells #[.int .i64 0, .int .u32 0, .string ⟨#[]⟩, .int .i64 0] 41)
  rw [hk] at hw1 b0
  have hG1 := hG.below a0
  have hA1 := hA.next a0
  have C := load_N hG1 hA1 x.pl
  have k0 := cells_cell (i := 0) b0 (v := .int .i64 0) rfl
  have k1 := cells_cell (i := 1) b0 (v := .int .i64 x.pl) rfl
  have k2 := cells_cell (i := 2) b0 (v := .int .i64 x.num) rfl
  have k3 := cells_cell (i := 3) b0 (v := .int .u32 (x.v : Int)) rfl
  have k4 := cells_cell (i := 4) b0 (v := .string x.s) rfl
  have hne : (p ≠ w.heap.size + 1 ∧ p ≠ w.heap.size + 1 + 1) ∧ (g ≠ w.heap.size + 1 ∧ g ≠ w.heap.size + 1 + 1) := by
    have := block_lt hA.box
    have := hA.arr.lt
    omega
  have hgr1 := grown_below a0 (some g)
  have HA1 := Lib.hid hA1
  have H1 := Lib.hid hw1
  clear hw1 hG hA hG1 hA1 a1 b0 a0
  unfold XOp.val
  rw [hk]
  clear hk
  go_enter Tryd.func19, Tryd.ntmps19
  go_wp2_with fail
  rw [H1.out]
  go_wp2_with fail
  refine C.mono ?_
  rintro r w2 ⟨rfl, hb2⟩
  replace b1 := (hb2.block _ (block_lt b1)).trans b1
  replace b2 := (hb2.block _ (block_lt b2)).trans b2
  have hgr := grown_trans hgr1 (grown_below hb2 _)
  have hA2 := HA1.out.next hb2
  have d0 := cells_cell (i := 0) b2 (v := .int .i64 0) rfl
  have d1 := cells_cell (i := 1) b2 (v := .int .u32 0) rfl
  have d2 := cells_cell (i := 2) b2 (v := .string ⟨#[]⟩) rfl
  have d3 := cells_cell (i := 3) b2 (v := .int .i64 0) rfl
  have d4 := cells_free (i := 0) b2
  have d5 := cells_free (i := 1) b2
  have d6 := cells_free (i := 2) b2
  have d7 := cells_free (i := 3) b2
  have e0 := cells_cell (i := 0) b1 (v := .int .i64 0) rfl
  have e1 := cells_cell (i := 1) b1 (v := .int .u32 0) rfl
  have e2 := cells_cell (i := 2) b1 (v := .string ⟨#[]⟩) rfl
  have e3 := cells_cell (i := 3) b1 (v := .int .i64 0) rfl
  have e4 := cells_free (i := 0) b1
  have e5 := cells_free (i := 1) b1
  have e6 := cells_free (i := 2) b1
  have e7 := cells_free (i := 3) b1
  have HA2 := Lib.hid hA2
  have HGR := Lib.hid hgr
  have B1 := Lib.hid b1
  clear C k0 k1 k2 k3 k4 b1 b2 hA2 hgr hgr1
  go_wp2
  refine bodyPost_ret (results_said rfl _ _ (w.heap.size + 1) (.int .i64 0) (.int .u32 ((loadN n f x.pl : Nat) : Int)) (.string ⟨#[]⟩) (.int .i64 ((errW n x.pl).code)) rfl ?_) rfl ⟨rfl, ?_, ?_⟩
  · exact heap_setCell_same (i := 3) _ (heap_setCell_same (i := 2) _ (heap_setCell_same (i := 1) _ (heap_setCell_same (i := 0) _ ((Below.heap_setCell _ _ _ _ (by show w.heap.size + 1 ≠ w.heap.size + 1 + 1; omega)).trans ((Below.heap_setCell _ _ _ _ (by show w.heap.size + 1 ≠ w.heap.size + 1 + 1; omega)).trans (B1.out))))))
  · exact (ArenaV.setC (ArenaV.setC (ArenaV.setC (ArenaV.setC (ArenaV.setC (ArenaV.setC HA2.out hne.1.2 hne.2.2) hne.1.2 hne.2.2) hne.1.1 hne.2.1) hne.1.1 hne.2.1) hne.1.1 hne.2.1) hne.1.1 hne.2.1)
  · exact (grown_fresh (grown_fresh (grown_fresh (grown_fresh (grown_fresh (grown_fresh HGR.out (by omega)) (by omega)) (by omega)) (by omega)) (by omega)) (by omega))

set_option maxHeartbeats 2000000 in
set_option maxRecDepth 20000 in
theorem do_1 {E : EnvN} {w : World} {p g n : Nat} {f : Nat → Nat} (hG : GlobN E w) (hA : ArenaV w p g n f) (x : XOp) (hk : x.kind = 1) :
    Calls Tryd.prog 19 #[.pointer (some ⟨p, 0, none⟩), x.val] w fun r w' => r = .returned (.agg #[.int .i64 0, .int .u32 0, .string ⟨#[]⟩, .int .i64 ((errW n x.pl).code)]) ∧ ArenaV w' p g n (storeF n f x.pl x.v) ∧ w.grownBy w' (some g) := by
  obtain ⟨w1, hw1, a0, a1, b0, b1, b2⟩ := allocs3 w (.cells #[.int .i64 x.kind, .int .i64 x.pl, .int .i64 x.num, .int .u32 (x.v : Int), .string x.s] 44) (.cells #[.int .i64 0, .int .u32 0, .string ⟨#[]⟩, .int .i64 0] 41) (.cells #[.int .i64 0, .int .u32 0, .string ⟨#[]⟩, .int .i64 0] 41)
  rw [hk] at hw1 b0
  have hG1 := hG.below a0
  have hA1 := hA.next a0
  have C := store_N hG1 hA1 x.pl x.v
  have k0 := cells_cell (i := 0) b0 (v := .int .i64 1) rfl
  have k1 := cells_cell (i := 1) b0 (v := .int .i64 x.pl) rfl
  have k2 := cells_cell (i := 2) b0 (v := .int .i64 x.num) rfl
  have k3 := cells_cell (i := 3) b0 (v := .int .u32 (x.v : Int)) rfl
  have k4 := cells_cell (i := 4) b0 (v := .string x.s) rfl
  have hne : (p ≠ w.heap.size + 1 ∧ p ≠ w.heap.size + 1 + 1) ∧ (g ≠ w.heap.size + 1 ∧ g ≠ w.heap.size + 1 + 1) := by
    have := block_lt hA.box
    have := hA.arr.lt
    omega
  have hgr1 := grown_below a0 (some g)
  have HA1 := Lib.hid hA1
  have H1 := Lib.hid hw1
  clear hw1 hG hA hG1 hA1 a1 b0 a0
  unfold XOp.val
  rw [hk]
  clear hk
  go_enter Tryd.func19, Tryd.ntmps19
  go_wp2_with fail
  rw [H1.out]
  go_wp2_with fail
  refine C.mono ?_
  rintro r w2 ⟨rfl, hA2, hg2⟩
  replace b1 := grown_block hg2 (fun e => hne.2.1 e.symm) b1
  replace b2 := grown_block hg2 (fun e => hne.2.2 e.symm) b2
  have hgr := grown_trans hgr1 hg2
  have d0 := cells_cell (i := 0) b2 (v := .int .i64 0) rfl
  have d1 := cells_cell (i := 1) b2 (v := .int .u32 0) rfl
  have d2 := cells_cell (i := 2) b2 (v := .string ⟨#[]⟩) rfl
  have d3 := cells_cell (i := 3) b2 (v := .int .i64 0) rfl
  have d4 := cells_free (i := 0) b2
  have d5 := cells_free (i := 1) b2
  have d6 := cells_free (i := 2) b2
  have d7 := cells_free (i := 3) b2
  have e0 := cells_cell (i := 0) b1 (v := .int .i64 0) rfl
  have e1 := cells_cell (i := 1) b1 (v := .int .u32 0) rfl
  have e2 := cells_cell (i := 2) b1 (v := .string ⟨#[]⟩) rfl
  have e3 := cells_cell (i := 3) b1 (v := .int .i64 0) rfl
  have e4 := cells_free (i := 0) b1
  have e5 := cells_free (i := 1) b1
  have e6 := cells_free (i := 2) b1
  have e7 := cells_free (i := 3) b1
  have HA2 := Lib.hid hA2
  have HGR := Lib.hid hgr
  have B1 := Lib.hid b1
  clear C k0 k1 k2 k3 k4 b1 b2 hA2 hgr hgr1
  go_wp2
  refine bodyPost_ret (results_said rfl _ _ (w.heap.size + 1) (.int .i64 0) (.int .u32 0) (.string ⟨#[]⟩) (.int .i64 ((errW n x.pl).code)) rfl ?_) rfl ⟨rfl, ?_, ?_⟩
  · exact heap_setCell_same (i := 3) _ (heap_setCell_same (i := 2) _ (heap_setCell_same (i := 1) _ (heap_setCell_same (i := 0) _ ((Below.heap_setCell _ _ _ _ (by show w.heap.size + 1 ≠ w.heap.size + 1 + 1; omega)).trans (B1.out)))))
  · exact (ArenaV.setC (ArenaV.setC (ArenaV.setC (ArenaV.setC (ArenaV.setC HA2.out hne.1.2 hne.2.2) hne.1.1 hne.2.1) hne.1.1 hne.2.1) hne.1.1 hne.2.1) hne.1.1 hne.2.1)
  · exact (grown_fresh (grown_fresh (grown_fresh (grown_fresh (grown_fresh HGR.out (by omega)) (by omega)) (by omega)) (by omega)) (by omega))

set_option maxHeartbeats 2000000 in
set_option maxRecDepth 20000 in
theorem do_2 {E : EnvN} {w : World} {p g n : Nat} {f : Nat → Nat} (hG : GlobN E w) (hA : ArenaV w p g n f) (x : XOp) (hk : x.kind = 2) :
    Calls Tryd.prog 19 #[.pointer (some ⟨p, 0, none⟩), x.val] w fun r w' => r = .returned (.agg #[.int .i64 ((byteA n f x.pl : Nat) : Int), .int .u32 0, .string ⟨#[]⟩, .int .i64 ((chkN n x.pl 1).code)]) ∧ ArenaV w' p g n (f) ∧ w.grownBy w' (some g) := by
  obtain ⟨w1, hw1, a0, a1, b0, b1, b2⟩ := allocs3 w (.cells #[.int .i64 x.kind, .int .i64 x.pl, .int .i64 x.num, .int .u32 (x.v : Int), .string x.s] 44) (.cells #[.int .i64 0, .int .u32 0, .string ⟨#[]⟩, .int .i64 0] 41) (.cells #[.int .i64 0, .int .u32 0, .string ⟨#[]⟩, .int .i64 0] 41)
  rw [hk] at hw1 b0
  have hG1 := hG.below a0
  have hA1 := hA.next a0
  have C := byte_N hG1 hA1 x.pl
  have k0 := cells_cell (i := 0) b0 (v := .int .i64 2) rfl
  have k1 := cells_cell (i := 1) b0 (v := .int .i64 x.pl) rfl
  have k2 := cells_cell (i := 2) b0 (v := .int .i64 x.num) rfl
  have k3 := cells_cell (i := 3) b0 (v := .int .u32 (x.v : Int)) rfl
  have k4 := cells_cell (i := 4) b0 (v := .string x.s) rfl
  have hne : (p ≠ w.heap.size + 1 ∧ p ≠ w.heap.size + 1 + 1) ∧ (g ≠ w.heap.size + 1 ∧ g ≠ w.heap.size + 1 + 1) := by
    have := block_lt hA.box
    have := hA.arr.lt
    omega
  have hgr1 := grown_below a0 (some g)
  have HA1 := Lib.hid hA1
  have H1 := Lib.hid hw1
  clear hw1 hG hA hG1 hA1 a1 b0 a0
  unfold XOp.val
  rw [hk]
  clear hk
  go_enter Tryd.func19, Tryd.ntmps19
  go_wp2_with fail
  rw [H1.out]
  go_wp2_with fail
  refine C.mono ?_
  rintro r w2 ⟨rfl, rfl⟩
  have hgr := hgr1
  have hA2 := HA1.out
  have d0 := cells_cell (i := 0) b2 (v := .int .i64 0) rfl
  have d1 := cells_cell (i := 1) b2 (v := .int .u32 0) rfl
  have d2 := cells_cell (i := 2) b2 (v := .string ⟨#[]⟩) rfl
  have d3 := cells_cell (i := 3) b2 (v := .int .i64 0) rfl
  have d4 := cells_free (i := 0) b2
  have d5 := cells_free (i := 1) b2
  have d6 := cells_free (i := 2) b2
  have d7 := cells_free (i := 3) b2
  have e0 := cells_cell (i := 0) b1 (v := .int .i64 0) rfl
  have e1 := cells_cell (i := 1) b1 (v := .int .u32 0) rfl
  have e2 := cells_cell (i := 2) b1 (v := .string ⟨#[]⟩) rfl
  have e3 := cells_cell (i := 3) b1 (v := .int .i64 0) rfl
  have e4 := cells_free (i := 0) b1
  have e5 := cells_free (i := 1) b1
  have e6 := cells_free (i := 2) b1
  have e7 := cells_free (i := 3) b1
  have HA2 := Lib.hid hA2
  have HGR := Lib.hid hgr
  have B1 := Lib.hid b1
  clear C k0 k1 k2 k3 k4 b1 b2 hA2 hgr hgr1
  go_wp2
  refine bodyPost_ret (results_said rfl _ _ (w.heap.size + 1) (.int .i64 ((byteA n f x.pl : Nat) : Int)) (.int .u32 0) (.string ⟨#[]⟩) (.int .i64 ((chkN n x.pl 1).code)) rfl ?_) rfl ⟨rfl, ?_, ?_⟩
  · exact heap_setCell_same (i := 3) _ (heap_setCell_same (i := 2) _ (heap_setCell_same (i := 1) _ (heap_setCell_same (i := 0) _ ((Below.heap_setCell _ _ _ _ (by show w.heap.size + 1 ≠ w.heap.size + 1 + 1; omega)).trans ((Below.heap_setCell _ _ _ _ (by show w.heap.size + 1 ≠ w.heap.size + 1 + 1; omega)).trans (B1.out))))))
  · exact (ArenaV.setC (ArenaV.setC (ArenaV.setC (ArenaV.setC (ArenaV.setC (ArenaV.setC HA2.out hne.1.2 hne.2.2) hne.1.2 hne.2.2) hne.1.1 hne.2.1) hne.1.1 hne.2.1) hne.1.1 hne.2.1) hne.1.1 hne.2.1)
  · exact (grown_fresh (grown_fresh (grown_fresh (grown_fresh (grown_fresh (grown_fresh HGR.out (by omega)) (by omega)) (by omega)) (by omega)) (by omega)) (by omega))

set_option maxHeartbeats 2000000 in
set_option maxRecDepth 20000 in
theorem do_3 {E : EnvN} {w : World} {p g n : Nat} {f : Nat → Nat} (hG : GlobN E w) (hA : ArenaV w p g n f) (x : XOp) (hk : x.kind = 3) :
    Calls Tryd.prog 19 #[.pointer (some ⟨p, 0, none⟩), x.val] w fun r w' => r = .returned (.agg #[.int .i64 0, .int .u32 0, .string ⟨#[]⟩, .int .i64 (putE n x.pl x.num)]) ∧ ArenaV w' p g n (putF n f x.pl x.num) ∧ w.grownBy w' (some g) := by
  obtain ⟨w1, hw1, a0, a1, b0, b1, b2⟩ := allocs3 w (.cells #[.int .i64 x.kind, .int .i64 x.pl, .int .i64 x.num, .int .u32 (x.v : Int), .string x.s] 44) (.cells #[.int .i64 0, .int .u32 0, .string ⟨#[]⟩, .int .i64 0] 41) (.cells #[.int .i64 0, .int .u32 0, .string ⟨#[]⟩, .int .i64 0] 41)
  rw [hk] at hw1 b0
  have hG1 := hG.below a0
  have hA1 := hA.next a0
  have C := put_N hG1 hA1 x.pl x.num
  have k0 := cells_cell (i := 0) b0 (v := .int .i64 3) rfl
  have k1 := cells_cell (i := 1) b0 (v := .int .i64 x.pl) rfl
  have k2 := cells_cell (i := 2) b0 (v := .int .i64 x.num) rfl
  have k3 := cells_cell (i := 3) b0 (v := .int .u32 (x.v : Int)) rfl
  have k4 := cells_cell (i := 4) b0 (v := .string x.s) rfl
  have hne : (p ≠ w.heap.size + 1 ∧ p ≠ w.heap.size + 1 + 1) ∧ (g ≠ w.heap.size + 1 ∧ g ≠ w.heap.size + 1 + 1) := by
    have := block_lt hA.box
    have := hA.arr.lt
    omega
  have hgr1 := grown_below a0 (some g)
  have HA1 := Lib.hid hA1
  have H1 := Lib.hid hw1
  clear hw1 hG hA hG1 hA1 a1 b0 a0
  unfold XOp.val
  rw [hk]
  clear hk
  go_enter Tryd.func19, Tryd.ntmps19
  go_wp2_with fail
  rw [H1.out]
  go_wp2_with fail
  refine C.mono ?_
  rintro r w2 ⟨rfl, hA2, hg2⟩
  replace b1 := grown_block hg2 (fun e => hne.2.1 e.symm) b1
  replace b2 := grown_block hg2 (fun e => hne.2.2 e.symm) b2
  have hgr := grown_trans hgr1 hg2
  have d0 := cells_cell (i := 0) b2 (v := .int .i64 0) rfl
  have d1 := cells_cell (i := 1) b2 (v := .int .u32 0) rfl
  have d2 := cells_cell (i := 2) b2 (v := .string ⟨#[]⟩) rfl
  have d3 := cells_cell (i := 3) b2 (v := .int .i64 0) rfl
  have d4 := cells_free (i := 0) b2
  have d5 := cells_free (i := 1) b2
  have d6 := cells_free (i := 2) b2
  have d7 := cells_free (i := 3) b2
  have e0 := cells_cell (i := 0) b1 (v := .int .i64 0) rfl
  have e1 := cells_cell (i := 1) b1 (v := .int .u32 0) rfl
  have e2 := cells_cell (i := 2) b1 (v := .string ⟨#[]⟩) rfl
  have e3 := cells_cell (i := 3) b1 (v := .int .i64 0) rfl
  have e4 := cells_free (i := 0) b1
  have e5 := cells_free (i := 1) b1
  have e6 := cells_free (i := 2) b1
  have e7 := cells_free (i := 3) b1
  have HA2 := Lib.hid hA2
  have HGR := Lib.hid hgr
  have B1 := Lib.hid b1
  clear C k0 k1 k2 k3 k4 b1 b2 hA2 hgr hgr1
  go_wp2
  refine bodyPost_ret (results_said rfl _ _ (w.heap.size + 1) (.int .i64 0) (.int .u32 0) (.string ⟨#[]⟩) (.int .i64 (putE n x.pl x.num)) rfl ?_) rfl ⟨rfl, ?_, ?_⟩
  · exact heap_setCell_same (i := 3) _ (heap_setCell_same (i := 2) _ (heap_setCell_same (i := 1) _ (heap_setCell_same (i := 0) _ ((Below.heap_setCell _ _ _ _ (by show w.heap.size + 1 ≠ w.heap.size + 1 + 1; omega)).trans (B1.out)))))
  · exact (ArenaV.setC (ArenaV.setC (ArenaV.setC (ArenaV.setC (ArenaV.setC HA2.out hne.1.2 hne.2.2) hne.1.1 hne.2.1) hne.1.1 hne.2.1) hne.1.1 hne.2.1) hne.1.1 hne.2.1)
  · exact (grown_fresh (grown_fresh (grown_fresh (grown_fresh (grown_fresh HGR.out (by omega)) (by omega)) (by omega)) (by omega)) (by omega))

set_option maxHeartbeats 2000000 in
set_option maxRecDepth 20000 in
theorem do_4 {E : EnvN} {w : World} {p g n : Nat} {f : Nat → Nat} (hG : GlobN E w) (hA : ArenaV w p g n f) (x : XOp) (hk : x.kind = 4) :
    Calls Tryd.prog 19 #[.pointer (some ⟨p, 0, none⟩), x.val] w fun r w' => r = .returned (.agg #[.int .i64 0, .int .u32 0, .string (readN n f x.pl x.num), .int .i64 ((chkN n x.pl x.num).code)]) ∧ ArenaV w' p g n (f) ∧ w.grownBy w' (some g) := by
  obtain ⟨w1, hw1, a0, a1, b0, b1, b2⟩ := allocs3 w (.cells #[.int .i64 x.kind, .int .i64 x.pl, .int .i64 x.num, .int .u32 (x.v : Int), .string x.s] 44) (.cells #[.int .i64 0, .int .u32 0, .string ⟨#[]⟩, .int .i64 0] 41) (.cells #[.int .i64 0, .int .u32 0, .string ⟨#[]⟩, .int .i64 0] 41)
  rw [hk] at hw1 b0
  have hG1 := hG.below a0
  have hA1 := hA.next a0
  have C := read_N hG1 hA1 x.pl x.num
  have k0 := cells_cell (i := 0) b0 (v := .int .i64 4) rfl
  have k1 := cells_cell (i := 1) b0 (v := .int .i64 x.pl) rfl
  have k2 := cells_cell (i := 2) b0 (v := .int .i64 x.num) rfl
  have k3 := cells_cell (i := 3) b0 (v := .int .u32 (x.v : Int)) rfl
  have k4 := cells_cell (i := 4) b0 (v := .string x.s) rfl
  have hne : (p ≠ w.heap.size + 1 ∧ p ≠ w.heap.size + 1 + 1) ∧ (g ≠ w.heap.size + 1 ∧ g ≠ w.heap.size + 1 + 1) := by
    have := block_lt hA.box
    have := hA.arr.lt
    omega
  have hgr1 := grown_below a0 (some g)
  have HA1 := Lib.hid hA1
  have H1 := Lib.hid hw1
  clear hw1 hG hA hG1 hA1 a1 b0 a0
  unfold XOp.val
  rw [hk]
  clear hk
  go_enter Tryd.func19, Tryd.ntmps19
  go_wp2_with fail
  rw [H1.out]
  go_wp2_with fail
  refine C.mono ?_
  rintro r w2 ⟨rfl, rfl⟩
  have hgr := hgr1
  have hA2 := HA1.out
  have d0 := cells_cell (i := 0) b2 (v := .int .i64 0) rfl
  have d1 := cells_cell (i := 1) b2 (v := .int .u32 0) rfl
  have d2 := cells_cell (i := 2) b2 (v := .string ⟨#[]⟩) rfl
  have d3 := cells_cell (i := 3) b2 (v := .int .i64 0) rfl
  have d4 := cells_free (i := 0) b2
  have d5 := cells_free (i := 1) b2
  have d6 := cells_free (i := 2) b2
  have d7 := cells_free (i := 3) b2
  have e0 := cells_cell (i := 0) b1 (v := .int .i64 0) rfl
  have e1 := cells_cell (i := 1) b1 (v := .int .u32 0) rfl
  have e2 := cells_cell (i := 2) b1 (v := .string ⟨#[]⟩) rfl
  have e3 := cells_cell (i := 3) b1 (v := .int .i64 0) rfl
  have e4 := cells_free (i := 0) b1
  have e5 := cells_free (i := 1) b1
  have e6 := cells_free (i := 2) b1
  have e7 := cells_free (i := 3) b1
  have HA2 := Lib.hid hA2
  have HGR := Lib.hid hgr
  have B1 := Lib.hid b1
  clear C k0 k1 k2 k3 k4 b1 b2 hA2 hgr hgr1
  go_wp2
  refine bodyPost_ret (results_said rfl _ _ (w.heap.size + 1) (.int .i64 0) (.int .u32 0) (.string (readN n f x.pl x.num)) (.int .i64 ((chkN n x.pl x.num).code)) rfl ?_) rfl ⟨rfl, ?_, ?_⟩
  · exact heap_setCell_same (i := 3) _ (heap_setCell_same (i := 2) _ (heap_setCell_same (i := 1) _ (heap_setCell_same (i := 0) _ ((Below.heap_setCell _ _ _ _ (by show w.heap.size + 1 ≠ w.heap.size + 1 + 1; omega)).trans ((Below.heap_setCell _ _ _ _ (by show w.heap.size + 1 ≠ w.heap.size + 1 + 1; omega)).trans (B1.out))))))
  · exact (ArenaV.setC (ArenaV.setC (ArenaV.setC (ArenaV.setC (ArenaV.setC (ArenaV.setC HA2.out hne.1.2 hne.2.2) hne.1.2 hne.2.2) hne.1.1 hne.2.1) hne.1.1 hne.2.1) hne.1.1 hne.2.1) hne.1.1 hne.2.1)
  · exact (grown_fresh (grown_fresh (grown_fresh (grown_fresh (grown_fresh (grown_fresh HGR.out (by omega)) (by omega)) (by omega)) (by omega)) (by omega)) (by omega))

set_option maxHeartbeats 2000000 in
set_option maxRecDepth 20000 in
theorem do_5 {E : EnvN} {w : World} {p g n : Nat} {f : Nat → Nat} (hG : GlobN E w) (hA : ArenaV w p g n f) (x : XOp) (hk : x.kind = 5) :
    Calls Tryd.prog 19 #[.pointer (some ⟨p, 0, none⟩), x.val] w fun r w' => r = .returned (.agg #[.int .i64 0, .int .u32 0, .string ⟨#[]⟩, .int .i64 ((chkN n x.pl x.s.size).code)]) ∧ ArenaV w' p g n (writeF n f x.pl x.s) ∧ w.grownBy w' (some g) := by
  obtain ⟨w1, hw1, a0, a1, b0, b1, b2⟩ := allocs3 w (.cells #[.int .i64 x.kind, .int .i64 x.pl, .int .i64 x.num, .int .u32 (x.v : Int), .string x.s] 44) (.cells #[.int .i64 0, .int .u32 0, .string ⟨#[]⟩, .int .i64 0] 41) (.cells #[.int .i64 0, .int .u32 0, .string ⟨#[]⟩, .int .i64 0] 41)
  rw [hk] at hw1 b0
  have hG1 := hG.below a0
  have hA1 := hA.next a0
  have C := write_N hG1 hA1 x.pl x.s
  have k0 := cells_cell (i := 0) b0 (v := .int .i64 5) rfl
  have k1 := cells_cell (i := 1) b0 (v := .int .i64 x.pl) rfl
  have k2 := cells_cell (i := 2) b0 (v := .int .i64 x.num) rfl
  have k3 := cells_cell (i := 3) b0 (v := .int .u32 (x.v : Int)) rfl
  have k4 := cells_cell (i := 4) b0 (v := .string x.s) rfl
  have hne : (p ≠ w.heap.size + 1 ∧ p ≠ w.heap.size + 1 + 1) ∧ (g ≠ w.heap.size + 1 ∧ g ≠ w.heap.size + 1 + 1) := by
    have := block_lt hA.box
    have := hA.arr.lt
    omega
  have hgr1 := grown_below a0 (some g)
  have HA1 := Lib.hid hA1
  have H1 := Lib.hid hw1
  clear hw1 hG hA hG1 hA1 a1 b0 a0
  unfold XOp.val
  rw [hk]
  clear hk
  go_enter Tryd.func19, Tryd.ntmps19
  go_wp2_with fail
  rw [H1.out]
  go_wp2_with fail
  refine C.mono ?_
  rintro r w2 ⟨rfl, hA2, hg2⟩
  replace b1 := grown_block hg2 (fun e => hne.2.1 e.symm) b1
  replace b2 := grown_block hg2 (fun e => hne.2.2 e.symm) b2
  have hgr := grown_trans hgr1 hg2
  have d0 := cells_cell (i := 0) b2 (v := .int .i64 0) rfl
  have d1 := cells_cell (i := 1) b2 (v := .int .u32 0) rfl
  have d2 := cells_cell (i := 2) b2 (v := .string ⟨#[]⟩) rfl
  have d3 := cells_cell (i := 3) b2 (v := .int .i64 0) rfl
  have d4 := cells_free (i := 0) b2
  have d5 := cells_free (i := 1) b2
  have d6 := cells_free (i := 2) b2
  have d7 := cells_free (i := 3) b2
  have e0 := cells_cell (i := 0) b1 (v := .int .i64 0) rfl
  have e1 := cells_cell (i := 1) b1 (v := .int .u32 0) rfl
  have e2 := cells_cell (i := 2) b1 (v := .string ⟨#[]⟩) rfl
  have e3 := cells_cell (i := 3) b1 (v := .int .i64 0) rfl
  have e4 := cells_free (i := 0) b1
  have e5 := cells_free (i := 1) b1
  have e6 := cells_free (i := 2) b1
  have e7 := cells_free (i := 3) b1
  have HA2 := Lib.hid hA2
  have HGR := Lib.hid hgr
  have B1 := Lib.hid b1
  clear C k0 k1 k2 k3 k4 b1 b2 hA2 hgr hgr1
  go_wp2
  refine bodyPost_ret (results_said rfl _ _ (w.heap.size + 1) (.int .i64 0) (.int .u32 0) (.string ⟨#[]⟩) (.int .i64 ((chkN n x.pl x.s.size).code)) rfl ?_) rfl ⟨rfl, ?_, ?_⟩
  · exact heap_setCell_same (i := 3) _ (heap_setCell_same (i := 2) _ (heap_setCell_same (i := 1) _ (heap_setCell_same (i := 0) _ ((Below.heap_setCell _ _ _ _ (by show w.heap.size + 1 ≠ w.heap.size + 1 + 1; omega)).trans (B1.out)))))
  · exact (ArenaV.setC (ArenaV.setC (ArenaV.setC (ArenaV.setC (ArenaV.setC HA2.out hne.1.2 hne.2.2) hne.1.1 hne.2.1) hne.1.1 hne.2.1) hne.1.1 hne.2.1) hne.1.1 hne.2.1)
  · exact (grown_fresh (grown_fresh (grown_fresh (grown_fresh (grown_fresh HGR.out (by omega)) (by omega)) (by omega)) (by omega)) (by omega))

set_option maxHeartbeats 2000000 in
set_option maxRecDepth 20000 in
theorem do_6 {E : EnvN} {w : World} {p g n : Nat} {f : Nat → Nat} (hG : GlobN E w) (hA : ArenaV w p g n f) (x : XOp) (hk : x.kind = 6) :
    Calls Tryd.prog 19 #[.pointer (some ⟨p, 0, none⟩), x.val] w fun r w' => r = .returned (.agg #[.int .i64 0, .int .u32 0, .string ⟨#[]⟩, .int .i64 ((chkN n x.pl x.num).code)]) ∧ ArenaV w' p g n (zeroF n f x.pl x.num) ∧ w.grownBy w' (some g) := by
  obtain ⟨w1, hw1, a0, a1, b0, b1, b2⟩ := allocs3 w (.cells #[.int .i64 x.kind, .int .i64 x.pl, .int .i64 x.num, .int .u32 (x.v : Int), .string x.s] 44) (.cells #[.int .i64 0, .int .u32 0, .string ⟨#[]⟩, .int .i64 0] 41) (.cells #[.int .i64 0, .int .u32 0, .string ⟨#[]⟩, .int .i64 0] 41)
  rw [hk] at hw1 b0
  have hG1 := hG.below a0
  have hA1 := hA.next a0
  have C := zero_N hG1 hA1 x.pl x.num
  have k0 := cells_cell (i := 0) b0 (v := .int .i64 6) rfl
  have k1 := cells_cell (i := 1) b0 (v := .int .i64 x.pl) rfl
  have k2 := cells_cell (i := 2) b0 (v := .int .i64 x.num) rfl
  have k3 := cells_cell (i := 3) b0 (v := .int .u32 (x.v : Int)) rfl
  have k4 := cells_cell (i := 4) b0 (v := .string x.s) rfl
  have hne : (p ≠ w.heap.size + 1 ∧ p ≠ w.heap.size + 1 + 1) ∧ (g ≠ w.heap.size + 1 ∧ g ≠ w.heap.size + 1 + 1) := by
    have := block_lt hA.box
    have := hA.arr.lt
    omega
  have hgr1 := grown_below a0 (some g)
  have HA1 := Lib.hid hA1
  have H1 := Lib.hid hw1
  clear hw1 hG hA hG1 hA1 a1 b0 a0
  unfold XOp.val
  rw [hk]
  clear hk
  go_enter Tryd.func19, Tryd.ntmps19
  go_wp2_with fail
  rw [H1.out]
  go_wp2_with fail
  refine C.mono ?_
  rintro r w2 ⟨rfl, hA2, hg2⟩
  replace b1 := grown_block hg2 (fun e => hne.2.1 e.symm) b1
  replace b2 := grown_block hg2 (fun e => hne.2.2 e.symm) b2
  have hgr := grown_trans hgr1 hg2
  have d0 := cells_cell (i := 0) b2 (v := .int .i64 0) rfl
  have d1 := cells_cell (i := 1) b2 (v := .int .u32 0) rfl
  have d2 := cells_cell (i := 2) b2 (v := .string ⟨#[]⟩) rfl
  have d3 := cells_cell (i := 3) b2 (v := .int .i64 0) rfl
  have d4 := cells_free (i := 0) b2
  have d5 := cells_free (i := 1) b2
  have d6 := cells_free (i := 2) b2
  have d7 := cells_free (i := 3) b2
  have e0 := cells_cell (i := 0) b1 (v := .int .i64 0) rfl
  have e1 := cells_cell (i := 1) b1 (v := .int .u32 0) rfl
  have e2 := cells_cell (i := 2) b1 (v := .string ⟨#[]⟩) rfl
  have e3 := cells_cell (i := 3) b1 (v := .int .i64 0) rfl
  have e4 := cells_free (i := 0) b1
  have e5 := cells_free (i := 1) b1
  have e6 := cells_free (i := 2) b1
  have e7 := cells_free (i := 3) b1
  have HA2 := Lib.hid hA2
  have HGR := Lib.hid hgr
  have B1 := Lib.hid b1
  clear C k0 k1 k2 k3 k4 b1 b2 hA2 hgr hgr1
  go_wp2
  refine bodyPost_ret (results_said rfl _ _ (w.heap.size + 1) (.int .i64 0) (.int .u32 0) (.string ⟨#[]⟩) (.int .i64 ((chkN n x.pl x.num).code)) rfl ?_) rfl ⟨rfl, ?_, ?_⟩
  · exact heap_setCell_same (i := 3) _ (heap_setCell_same (i := 2) _ (heap_setCell_same (i := 1) _ (heap_setCell_same (i := 0) _ ((Below.heap_setCell _ _ _ _ (by show w.heap.size + 1 ≠ w.heap.size + 1 + 1; omega)).trans (B1.out)))))
  · exact (ArenaV.setC (ArenaV.setC (ArenaV.setC (ArenaV.setC (ArenaV.setC HA2.out hne.1.2 hne.2.2) hne.1.1 hne.2.1) hne.1.1 hne.2.1) hne.1.1 hne.2.1) hne.1.1 hne.2.1)
  · exact (grown_fresh (grown_fresh (grown_fresh (grown_fresh (grown_fresh HGR.out (by omega)) (by omega)) (by omega)) (by omega)) (by omega))

set_option maxHeartbeats 2000000 in
set_option maxRecDepth 20000 in
theorem do_none {w : World} {p g n : Nat} {f : Nat → Nat} (hA : ArenaV w p g n f) (x : XOp) (h0 : ¬ x.kind = 0) (h1 : ¬ x.kind = 1) (h2 : ¬ x.kind = 2) (h3 : ¬ x.kind = 3) (h4 : ¬ x.kind = 4) (h5 : ¬ x.kind = 5) (h6 : ¬ x.kind = 6) :
    Calls Tryd.prog 19 #[.pointer (some ⟨p, 0, none⟩), x.val] w fun r w' => r = .returned (.agg #[.int .i64 0, .int .u32 0, .string ⟨#[]⟩, .int .i64 0]) ∧ ArenaV w' p g n f ∧ w.grownBy w' (some g) := by
  obtain ⟨w1, hw1, a0, a1, b0, b1, b2⟩ := allocs3 w (.cells #[.int .i64 x.kind, .int .i64 x.pl, .int .i64 x.num, .int .u32 (x.v : Int), .string x.s] 44) (.cells #[.int .i64 0, .int .u32 0, .string ⟨#[]⟩, .int .i64 0] 41) (.cells #[.int .i64 0, .int .u32 0, .string ⟨#[]⟩, .int .i64 0] 41)
  have k0 := cells_cell (i := 0) b0 (v := .int .i64 x.kind) rfl
  have hne : (p ≠ w.heap.size + 1 ∧ p ≠ w.heap.size + 1 + 1) ∧ (g ≠ w.heap.size + 1 ∧ g ≠ w.heap.size + 1 + 1) := by
    have := block_lt hA.box
    have := hA.arr.lt
    omega
  have HGR := Lib.hid (grown_below a0 (some g))
  have HA2 := Lib.hid (hA.next a0)
  have d0 := cells_cell (i := 0) b2 (v := .int .i64 0) rfl
  have d1 := cells_cell (i := 1) b2 (v := .int .u32 0) rfl
  have d2 := cells_cell (i := 2) b2 (v := .string ⟨#[]⟩) rfl
  have d3 := cells_cell (i := 3) b2 (v := .int .i64 0) rfl
  have e0 := cells_cell (i := 0) b1 (v := .int .i64 0) rfl
  have e1 := cells_cell (i := 1) b1 (v := .int .u32 0) rfl
  have e2 := cells_cell (i := 2) b1 (v := .string ⟨#[]⟩) rfl
  have e3 := cells_cell (i := 3) b1 (v := .int .i64 0) rfl
  have e4 := cells_free (i := 0) b1
  have e5 := cells_free (i := 1) b1
  have e6 := cells_free (i := 2) b1
  have e7 := cells_free (i := 3) b1
  have B1 := Lib.hid b1
  have H1 := Lib.hid hw1
  clear hw1 hA a1 b0 a0 b1 b2
  unfold XOp.val
  have s0 : (x.kind == 0) = false := beq_eq_false_iff_ne.2 h0
  generalize x.kind = kk at *
  go_enter Tryd.func19, Tryd.ntmps19
  go_wp2_with fail
  rw [H1.out]
  go_wp2
  refine bodyPost_ret (results_said rfl _ _ (w.heap.size + 1) (.int .i64 0) (.int .u32 0) (.string ⟨#[]⟩) (.int .i64 0) rfl ?_) rfl ⟨rfl, ?_, ?_⟩
  · exact B1.out
  · exact HA2.out
  · exact HGR.out

theorem do_N {E : EnvN} {w : World} {p g n : Nat} {f : Nat → Nat} (hG : GlobN E w) (hA : ArenaV w p g n f) (x : XOp) :
    Calls Tryd.prog 19 #[.pointer (some ⟨p, 0, none⟩), x.val] w fun r w' => r = .returned (.agg #[.int .i64 (doI n f x), .int .u32 ((doV n f x : Nat) : Int), .string (doS n f x), .int .i64 (doE n x)]) ∧ ArenaV w' p g n (doF n f x) ∧ w.grownBy w' (some g) := by
  by_cases h0 : x.kind = 0
  · simpa [doI, doV, doS, doE, doF, h0] using do_0 hG hA x h0
  by_cases h1 : x.kind = 1
  · simpa [doI, doV, doS, doE, doF, h1] using do_1 hG hA x h1
  by_cases h2 : x.kind = 2
  · simpa [doI, doV, doS, doE, doF, h2] using do_2 hG hA x h2
  by_cases h3 : x.kind = 3
  · simpa [doI, doV, doS, doE, doF, h3] using do_3 hG hA x h3
  by_cases h4 : x.kind = 4
  · simpa [doI, doV, doS, doE, doF, h4] using do_4 hG hA x h4
  by_cases h5 : x.kind = 5
  · simpa [doI, doV, doS, doE, doF, h5] using do_5 hG hA x h5
  by_cases h6 : x.kind = 6
  · simpa [doI, doV, doS, doE, doF, h6] using do_6 hG hA x h6
  simpa [doI, doV, doS, doE, doF, h0, h1, h2, h3, h4, h5, h6] using do_none hA x h0 h1 h2 h3 h4 h5 h6
end Go.Proofs.YtjoghbpekpgkpaaDoor

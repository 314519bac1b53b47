/- Layer arena: want: the document's answer of a call (printed by wip/mknr4.py). -/
import Derived.Test.YtjoghbpekpgkpaaDoorN12
import Derived.Test.YtjoghbpekpgkpaaDoorNR3
namespace Go.Proofs.YtjoghbpekpgkpaaDoor
open Go Go.RowKit Go.Shelf
attribute [local go_sem ↓] Go.wp_at_zero Go.wp_at_succ

theorem RefV.setC {W : World} {p g n b i : Nat} {f : Nat → Nat} {v : Value} (h : RefV W p g n f) (hp : p ≠ b) (hg : g ≠ b) : RefV (W.setCell ⟨b, i, none⟩ v) p g n f :=
  ⟨(Below.heap_setCell _ _ _ _ hp).trans h.box, h.arr.same (Below.heap_setCell _ _ _ _ hg), h.ne⟩

set_option maxHeartbeats 2000000 in
set_option maxRecDepth 20000 in
theorem want_0 {w : World} {p g n : Nat} {f : Nat → Nat} (hA : RefV w p g n f) (x : XOp) (_hV : x.v < 4294967296) (_hs : x.s.size ≤ 1000000) (hk : x.kind = 0) :
    Calls Tryd.prog 20 #[.pointer (some ⟨p, 0, none⟩), x.val] w fun r w' => r = .returned (.agg #[.int .i64 0, .int .u32 ((loadN n f x.pl : Nat) : Int), .string ⟨#[]⟩, .int .i64 ((errW n x.pl).code)]) ∧ RefV w' p g n (f) ∧ w.grownBy w' (some g) := by
  obtain ⟨w1, hw1, a0, a1, b0, b1, b2⟩ := allocs3 w (.cells #[.int .i64 x.kind, .int .i64 x.pl, .int .i64 x.num, .int .u32 (x.v : Int), .string x.s] 44) (.cells #[.int .i64 0, .int .u32 0, .string ⟨#[]⟩, .int .i64 0] 41) (.cells #[.int .i64 0, .int .u32 0, .string ⟨#[]⟩, .int .i64 0] 41)
  rw [hk] at hw1 b0
  have hA1 := hA.next a0
  have C := loadR hA1 x.pl
  have k0 := cells_cell (i := 0) b0 (v := .int .i64 0) rfl
  have k1 := cells_cell (i := 1) b0 (v := .int .i64 x.pl) rfl
  have k2 := cells_cell (i := 2) b0 (v := .int .i64 x.num) rfl
  have k3 := cells_cell (i := 3) b0 (v := .int .u32 (x.v : Int)) rfl
  have k4 := cells_cell (i := 4) b0 (v := .string x.s) rfl
  have hne : (p ≠ w.heap.size + 1 ∧ p ≠ w.heap.size + 1 + 1) ∧ (g ≠ w.heap.size + 1 ∧ g ≠ w.heap.size + 1 + 1) := by
    have := block_lt hA.box
    have := hA.arr.lt
    omega
  have hgr1 := grown_below a0 (some g)
  have HA1 := Lib.hid hA1
  have H1 := Lib.hid hw1
  clear hw1 hA hA1 a1 b0 a0
  unfold XOp.val
  rw [hk]
  clear hk
  go_enter Tryd.func20, Tryd.ntmps20
  go_wp2_with fail
  rw [H1.out]
  go_wp2_with fail
  refine C.mono ?_
  rintro r w2 ⟨rfl, rfl⟩
  have hgr := hgr1
  have hA2 := HA1.out
  have d0 := cells_cell (i := 0) b2 (v := .int .i64 0) rfl
  have d1 := cells_cell (i := 1) b2 (v := .int .u32 0) rfl
  have d2 := cells_cell (i := 2) b2 (v := .string ⟨#[]⟩) rfl
  have d3 := cells_cell (i := 3) b2 (v := .int .i64 0) rfl
  have d4 := cells_free (i := 0) b2
  have d5 := cells_free (i := 1) b2
  have d6 := cells_free (i := 2) b2
  have d7 := cells_free (i := 3) b2
  have e0 := cells_cell (i := 0) b1 (v := .int .i64 0) rfl
  have e1 := cells_cell (i := 1) b1 (v := .int .u32 0) rfl
  have e2 := cells_cell (i := 2) b1 (v := .string ⟨#[]⟩) rfl
  have e3 := cells_cell (i := 3) b1 (v := .int .i64 0) rfl
  have e4 := cells_free (i := 0) b1
  have e5 := cells_free (i := 1) b1
  have e6 := cells_free (i := 2) b1
  have e7 := cells_free (i := 3) b1
  have HA2 := Lib.hid hA2
  have HGR := Lib.hid hgr
  have B1 := Lib.hid b1
  clear C k0 k1 k2 k3 k4 b1 b2 hA2 hgr hgr1
  go_wp2
  refine bodyPost_ret (results_said rfl _ _ (w.heap.size + 1) (.int .i64 0) (.int .u32 ((loadN n f x.pl : Nat) : Int)) (.string ⟨#[]⟩) (.int .i64 ((errW n x.pl).code)) rfl ?_) rfl ⟨rfl, ?_, ?_⟩
  · exact heap_setCell_same (i := 3) _ (heap_setCell_same (i := 2) _ (heap_setCell_same (i := 1) _ (heap_setCell_same (i := 0) _ ((Below.heap_setCell _ _ _ _ (by show w.heap.size + 1 ≠ w.heap.size + 1 + 1; omega)).trans ((Below.heap_setCell _ _ _ _ (by show w.heap.size + 1 ≠ w.heap.size + 1 + 1; omega)).trans (B1.out))))))
  · exact (RefV.setC (RefV.setC (RefV.setC (RefV.setC (RefV.setC (RefV.setC HA2.out hne.1.2 hne.2.2) hne.1.2 hne.2.2) hne.1.1 hne.2.1) hne.1.1 hne.2.1) hne.1.1 hne.2.1) hne.1.1 hne.2.1)
  · exact (grown_fresh (grown_fresh (grown_fresh (grown_fresh (grown_fresh (grown_fresh HGR.out (by omega)) (by omega)) (by omega)) (by omega)) (by omega)) (by omega))

set_option maxHeartbeats 2000000 in
set_option maxRecDepth 20000 in
theorem want_1 {w : World} {p g n : Nat} {f : Nat → Nat} (hA : RefV w p g n f) (x : XOp) (hV : x.v < 4294967296) (_hs : x.s.size ≤ 1000000) (hk : x.kind = 1) :
    Calls Tryd.prog 20 #[.pointer (some ⟨p, 0, none⟩), x.val] w fun r w' => r = .returned (.agg #[.int .i64 0, .int .u32 0, .string ⟨#[]⟩, .int .i64 ((errW n x.pl).code)]) ∧ RefV w' p g n (storeF n f x.pl x.v) ∧ w.grownBy w' (some g) := by
  obtain ⟨w1, hw1, a0, a1, b0, b1, b2⟩ := allocs3 w (.cells #[.int .i64 x.kind, .int .i64 x.pl, .int .i64 x.num, .int .u32 (x.v : Int), .string x.s] 44) (.cells #[.int .i64 0, .int .u32 0, .string ⟨#[]⟩, .int .i64 0] 41) (.cells #[.int .i64 0, .int .u32 0, .string ⟨#[]⟩, .int .i64 0] 41)
  rw [hk] at hw1 b0
  have hA1 := hA.next a0
  have C := storeR hA1 x.pl hV
  have k0 := cells_cell (i := 0) b0 (v := .int .i64 1) rfl
  have k1 := cells_cell (i := 1) b0 (v := .int .i64 x.pl) rfl
  have k2 := cells_cell (i := 2) b0 (v := .int .i64 x.num) rfl
  have k3 := cells_cell (i := 3) b0 (v := .int .u32 (x.v : Int)) rfl
  have k4 := cells_cell (i := 4) b0 (v := .string x.s) rfl
  have hne : (p ≠ w.heap.size + 1 ∧ p ≠ w.heap.size + 1 + 1) ∧ (g ≠ w.heap.size + 1 ∧ g ≠ w.heap.size + 1 + 1) := by
    have := block_lt hA.box
    have := hA.arr.lt
    omega
  have hgr1 := grown_below a0 (some g)
  have HA1 := Lib.hid hA1
  have H1 := Lib.hid hw1
  clear hw1 hA hA1 a1 b0 a0
  unfold XOp.val
  rw [hk]
  clear hk
  go_enter Tryd.func20, Tryd.ntmps20
  go_wp2_with fail
  rw [H1.out]
  go_wp2_with fail
  refine C.mono ?_
  rintro r w2 ⟨rfl, hA2, hg2⟩
  replace b1 := grown_block hg2 (fun e => hne.2.1 e.symm) b1
  replace b2 := grown_block hg2 (fun e => hne.2.2 e.symm) b2
  have hgr := grown_trans hgr1 hg2
  have d0 := cells_cell (i := 0) b2 (v := .int .i64 0) rfl
  have d1 := cells_cell (i := 1) b2 (v := .int .u32 0) rfl
  have d2 := cells_cell (i := 2) b2 (v := .string ⟨#[]⟩) rfl
  have d3 := cells_cell (i := 3) b2 (v := .int .i64 0) rfl
  have d4 := cells_free (i := 0) b2
  have d5 := cells_free (i := 1) b2
  have d6 := cells_free (i := 2) b2
  have d7 := cells_free (i := 3) b2
  have e0 := cells_cell (i := 0) b1 (v := .int .i64 0) rfl
  have e1 := cells_cell (i := 1) b1 (v := .int .u32 0) rfl
  have e2 := cells_cell (i := 2) b1 (v := .string ⟨#[]⟩) rfl
  have e3 := cells_cell (i := 3) b1 (v := .int .i64 0) rfl
  have e4 := cells_free (i := 0) b1
  have e5 := cells_free (i := 1) b1
  have e6 := cells_free (i := 2) b1
  have e7 := cells_free (i := 3) b1
  have HA2 := Lib.hid hA2
  have HGR := Lib.hid hgr
  have B1 := Lib.hid b1
  clear C k0 k1 k2 k3 k4 b1 b2 hA2 hgr hgr1
  go_wp2
  refine bodyPost_ret (results_said rfl _ _ (w.heap.size + 1) (.int .i64 0) (.int .u32 0) (.string ⟨#[]⟩) (.int .i64 ((errW n x.pl).code)) rfl ?_) rfl ⟨rfl, ?_, ?_⟩
  · exact heap_setCell_same (i := 3) _ (heap_setCell_same (i := 2) _ (heap_setCell_same (i := 1) _ (heap_setCell_same (i := 0) _ ((Below.heap_setCell _ _ _ _ (by show w.heap.size + 1 ≠ w.heap.size + 1 + 1; omega)).trans (B1.out)))))
  · exact (RefV.setC (RefV.setC (RefV.setC (RefV.setC (RefV.setC HA2.out hne.1.2 hne.2.2) hne.1.1 hne.2.1) hne.1.1 hne.2.1) hne.1.1 hne.2.1) hne.1.1 hne.2.1)
  · exact (grown_fresh (grown_fresh (grown_fresh (grown_fresh (grown_fresh HGR.out (by omega)) (by omega)) (by omega)) (by omega)) (by omega))

set_option maxHeartbeats 2000000 in
set_option maxRecDepth 20000 in
theorem want_2 {w : World} {p g n : Nat} {f : Nat → Nat} (hA : RefV w p g n f) (x : XOp) (_hV : x.v < 4294967296) (_hs : x.s.size ≤ 1000000) (hk : x.kind = 2) :
    Calls Tryd.prog 20 #[.pointer (some ⟨p, 0, none⟩), x.val] w fun r w' => r = .returned (.agg #[.int .i64 ((byteA n f x.pl : Nat) : Int), .int .u32 0, .string ⟨#[]⟩, .int .i64 ((chkN n x.pl 1).code)]) ∧ RefV w' p g n (f) ∧ w.grownBy w' (some g) := by
  obtain ⟨w1, hw1, a0, a1, b0, b1, b2⟩ := allocs3 w (.cells #[.int .i64 x.kind, .int .i64 x.pl, .int .i64 x.num, .int .u32 (x.v : Int), .string x.s] 44) (.cells #[.int .i64 0, .int .u32 0, .string ⟨#[]⟩, .int .i64 0] 41) (.cells #[.int .i64 0, .int .u32 0, .string ⟨#[]⟩, .int .i64 0] 41)
  rw [hk] at hw1 b0
  have hA1 := hA.next a0
  have C := byteR hA1 x.pl
  have k0 := cells_cell (i := 0) b0 (v := .int .i64 2) rfl
  have k1 := cells_cell (i := 1) b0 (v := .int .i64 x.pl) rfl
  have k2 := cells_cell (i := 2) b0 (v := .int .i64 x.num) rfl
  have k3 := cells_cell (i := 3) b0 (v := .int .u32 (x.v : Int)) rfl
  have k4 := cells_cell (i := 4) b0 (v := .string x.s) rfl
  have hne : (p ≠ w.heap.size + 1 ∧ p ≠ w.heap.size + 1 + 1) ∧ (g ≠ w.heap.size + 1 ∧ g ≠ w.heap.size + 1 + 1) := by
    have := block_lt hA.box
    have := hA.arr.lt
    omega
  have hgr1 := grown_below a0 (some g)
  have HA1 := Lib.hid hA1
  have H1 := Lib.hid hw1
  clear hw1 hA hA1 a1 b0 a0
  unfold XOp.val
  rw [hk]
  clear hk
  go_enter Tryd.func20, Tryd.ntmps20
  go_wp2_with fail
  rw [H1.out]
  go_wp2_with fail
  refine C.mono ?_
  rintro r w2 ⟨rfl, rfl⟩
  have hgr := hgr1
  have hA2 := HA1.out
  have d0 := cells_cell (i := 0) b2 (v := .int .i64 0) rfl
  have d1 := cells_cell (i := 1) b2 (v := .int .u32 0) rfl
  have d2 := cells_cell (i := 2) b2 (v := .string ⟨#[]⟩) rfl
  have d3 := cells_cell (i := 3) b2 (v := .int .i64 0) rfl
  have d4 := cells_free (i := 0) b2
  have d5 := cells_free (i := 1) b2
  have d6 := cells_free (i := 2) b2
  have d7 := cells_free (i := 3) b2
  have e0 := cells_cell (i := 0) b1 (v := .int .i64 0) rfl
  have e1 := cells_cell (i := 1) b1 (v := .int .u32 0) rfl
  have e2 := cells_cell (i := 2) b1 (v := .string ⟨#[]⟩) rfl
  have e3 := cells_cell (i := 3) b1 (v := .int .i64 0) rfl
  have e4 := cells_free (i := 0) b1
  have e5 := cells_free (i := 1) b1
  have e6 := cells_free (i := 2) b1
  have e7 := cells_free (i := 3) b1
  have HA2 := Lib.hid hA2
  have HGR := Lib.hid hgr
  have B1 := Lib.hid b1
  clear C k0 k1 k2 k3 k4 b1 b2 hA2 hgr hgr1
  go_wp2
  refine bodyPost_ret (results_said rfl _ _ (w.heap.size + 1) (.int .i64 ((byteA n f x.pl : Nat) : Int)) (.int .u32 0) (.string ⟨#[]⟩) (.int .i64 ((chkN n x.pl 1).code)) rfl ?_) rfl ⟨rfl, ?_, ?_⟩
  · exact heap_setCell_same (i := 3) _ (heap_setCell_same (i := 2) _ (heap_setCell_same (i := 1) _ (heap_setCell_same (i := 0) _ ((Below.heap_setCell _ _ _ _ (by show w.heap.size + 1 ≠ w.heap.size + 1 + 1; omega)).trans ((Below.heap_setCell _ _ _ _ (by show w.heap.size + 1 ≠ w.heap.size + 1 + 1; omega)).trans (B1.out))))))
  · exact (RefV.setC (RefV.setC (RefV.setC (RefV.setC (RefV.setC (RefV.setC HA2.out hne.1.2 hne.2.2) hne.1.2 hne.2.2) hne.1.1 hne.2.1) hne.1.1 hne.2.1) hne.1.1 hne.2.1) hne.1.1 hne.2.1)
  · exact (grown_fresh (grown_fresh (grown_fresh (grown_fresh (grown_fresh (grown_fresh HGR.out (by omega)) (by omega)) (by omega)) (by omega)) (by omega)) (by omega))

set_option maxHeartbeats 2000000 in
set_option maxRecDepth 20000 in
theorem want_3 {w : World} {p g n : Nat} {f : Nat → Nat} (hA : RefV w p g n f) (x : XOp) (_hV : x.v < 4294967296) (_hs : x.s.size ≤ 1000000) (hk : x.kind = 3) :
    Calls Tryd.prog 20 #[.pointer (some ⟨p, 0, none⟩), x.val] w fun r w' => r = .returned (.agg #[.int .i64 0, .int .u32 0, .string ⟨#[]⟩, .int .i64 (putE n x.pl x.num)]) ∧ RefV w' p g n (putF n f x.pl x.num) ∧ w.grownBy w' (some g) := by
  obtain ⟨w1, hw1, a0, a1, b0, b1, b2⟩ := allocs3 w (.cells #[.int .i64 x.kind, .int .i64 x.pl, .int .i64 x.num, .int .u32 (x.v : Int), .string x.s] 44) (.cells #[.int .i64 0, .int .u32 0, .string ⟨#[]⟩, .int .i64 0] 41) (.cells #[.int .i64 0, .int .u32 0, .string ⟨#[]⟩, .int .i64 0] 41)
  rw [hk] at hw1 b0
  have hA1 := hA.next a0
  have C := putR hA1 x.pl x.num
  have k0 := cells_cell (i := 0) b0 (v := .int .i64 3) rfl
  have k1 := cells_cell (i := 1) b0 (v := .int .i64 x.pl) rfl
  have k2 := cells_cell (i := 2) b0 (v := .int .i64 x.num) rfl
  have k3 := cells_cell (i := 3) b0 (v := .int .u32 (x.v : Int)) rfl
  have k4 := cells_cell (i := 4) b0 (v := .string x.s) rfl
  have hne : (p ≠ w.heap.size + 1 ∧ p ≠ w.heap.size + 1 + 1) ∧ (g ≠ w.heap.size + 1 ∧ g ≠ w.heap.size + 1 + 1) := by
    have := block_lt hA.box
    have := hA.arr.lt
    omega
  have hgr1 := grown_below a0 (some g)
  have HA1 := Lib.hid hA1
  have H1 := Lib.hid hw1
  clear hw1 hA hA1 a1 b0 a0
  unfold XOp.val
  rw [hk]
  clear hk
  go_enter Tryd.func20, Tryd.ntmps20
  go_wp2_with fail
  rw [H1.out]
  go_wp2_with fail
  refine C.mono ?_
  rintro r w2 ⟨rfl, hA2, hg2⟩
  replace b1 := grown_block hg2 (fun e => hne.2.1 e.symm) b1
  replace b2 := grown_block hg2 (fun e => hne.2.2 e.symm) b2
  have hgr := grown_trans hgr1 hg2
  have d0 := cells_cell (i := 0) b2 (v := .int .i64 0) rfl
  have d1 := cells_cell (i := 1) b2 (v := .int .u32 0) rfl
  have d2 := cells_cell (i := 2) b2 (v := .string ⟨#[]⟩) rfl
  have d3 := cells_cell (i := 3) b2 (v := .int .i64 0) rfl
  have d4 := cells_free (i := 0) b2
  have d5 := cells_free (i := 1) b2
  have d6 := cells_free (i := 2) b2
  have d7 := cells_free (i := 3) b2
  have e0 := cells_cell (i := 0) b1 (v := .int .i64 0) rfl
  have e1 := cells_cell (i := 1) b1 (v := .int .u32 0) rfl
  have e2 := cells_cell (i := 2) b1 (v := .string ⟨#[]⟩) rfl
  have e3 := cells_cell (i := 3) b1 (v := .int .i64 0) rfl
  have e4 := cells_free (i := 0) b1
  have e5 := cells_free (i := 1) b1
  have e6 := cells_free (i := 2) b1
  have e7 := cells_free (i := 3) b1
  have HA2 := Lib.hid hA2
  have HGR := Lib.hid hgr
  have B1 := Lib.hid b1
  clear C k0 k1 k2 k3 k4 b1 b2 hA2 hgr hgr1
  go_wp2
  refine bodyPost_ret (results_said rfl _ _ (w.heap.size + 1) (.int .i64 0) (.int .u32 0) (.string ⟨#[]⟩) (.int .i64 (putE n x.pl x.num)) rfl ?_) rfl ⟨rfl, ?_, ?_⟩
  · exact heap_setCell_same (i := 3) _ (heap_setCell_same (i := 2) _ (heap_setCell_same (i := 1) _ (heap_setCell_same (i := 0) _ ((Below.heap_setCell _ _ _ _ (by show w.heap.size + 1 ≠ w.heap.size + 1 + 1; omega)).trans (B1.out)))))
  · exact (RefV.setC (RefV.setC (RefV.setC (RefV.setC (RefV.setC HA2.out hne.1.2 hne.2.2) hne.1.1 hne.2.1) hne.1.1 hne.2.1) hne.1.1 hne.2.1) hne.1.1 hne.2.1)
  · exact (grown_fresh (grown_fresh (grown_fresh (grown_fresh (grown_fresh HGR.out (by omega)) (by omega)) (by omega)) (by omega)) (by omega))

set_option maxHeartbeats 2000000 in
set_option maxRecDepth 20000 in
theorem want_4 {w : World} {p g n : Nat} {f : Nat → Nat} (hA : RefV w p g n f) (x : XOp) (_hV : x.v < 4294967296) (_hs : x.s.size ≤ 1000000) (hk : x.kind = 4) :
    Calls Tryd.prog 20 #[.pointer (some ⟨p, 0, none⟩), x.val] w fun r w' => r = .returned (.agg #[.int .i64 0, .int .u32 0, .string (readN n f x.pl x.num), .int .i64 ((chkN n x.pl x.num).code)]) ∧ RefV w' p g n (f) ∧ w.grownBy w' (some g) := by
  obtain ⟨w1, hw1, a0, a1, b0, b1, b2⟩ := allocs3 w (.cells #[.int .i64 x.kind, .int .i64 x.pl, .int .i64 x.num, .int .u32 (x.v : Int), .string x.s] 44) (.cells #[.int .i64 0, .int .u32 0, .string ⟨#[]⟩, .int .i64 0] 41) (.cells #[.int .i64 0, .int .u32 0, .string ⟨#[]⟩, .int .i64 0] 41)
  rw [hk] at hw1 b0
  have hA1 := hA.next a0
  have C := readR hA1 x.pl x.num
  have k0 := cells_cell (i := 0) b0 (v := .int .i64 4) rfl
  have k1 := cells_cell (i := 1) b0 (v := .int .i64 x.pl) rfl
  have k2 := cells_cell (i := 2) b0 (v := .int .i64 x.num) rfl
  have k3 := cells_cell (i := 3) b0 (v := .int .u32 (x.v : Int)) rfl
  have k4 := cells_cell (i := 4) b0 (v := .string x.s) rfl
  have hne : (p ≠ w.heap.size + 1 ∧ p ≠ w.heap.size + 1 + 1) ∧ (g ≠ w.heap.size + 1 ∧ g ≠ w.heap.size + 1 + 1) := by
    have := block_lt hA.box
    have := hA.arr.lt
    omega
  have hgr1 := grown_below a0 (some g)
  have HA1 := Lib.hid hA1
  have H1 := Lib.hid hw1
  clear hw1 hA hA1 a1 b0 a0
  unfold XOp.val
  rw [hk]
  clear hk
  go_enter Tryd.func20, Tryd.ntmps20
  go_wp2_with fail
  rw [H1.out]
  go_wp2_with fail
  refine C.mono ?_
  rintro r w2 ⟨rfl, rfl⟩
  have hgr := hgr1
  have hA2 := HA1.out
  have d0 := cells_cell (i := 0) b2 (v := .int .i64 0) rfl
  have d1 := cells_cell (i := 1) b2 (v := .int .u32 0) rfl
  have d2 := cells_cell (i := 2) b2 (v := .string ⟨#[]⟩) rfl
  have d3 := cells_cell (i := 3) b2 (v := .int .i64 0) rfl
  have d4 := cells_free (i := 0) b2
  have d5 := cells_free (i := 1) b2
  have d6 := cells_free (i := 2) b2
  have d7 := cells_free (i := 3) b2
  have e0 := cells_cell (i := 0) b1 (v := .int .i64 0) rfl
  have e1 := cells_cell (i := 1) b1 (v := .int .u32 0) rfl
  have e2 := cells_cell (i := 2) b1 (v := .string ⟨#[]⟩) rfl
  have e3 := cells_cell (i := 3) b1 (v := .int .i64 0) rfl
  have e4 := cells_free (i := 0) b1
  have e5 := cells_free (i := 1) b1
  have e6 := cells_free (i := 2) b1
  have e7 := cells_free (i := 3) b1
  have HA2 := Lib.hid hA2
  have HGR := Lib.hid hgr
  have B1 := Lib.hid b1
  clear C k0 k1 k2 k3 k4 b1 b2 hA2 hgr hgr1
  go_wp2
  refine bodyPost_ret (results_said rfl _ _ (w.heap.size + 1) (.int .i64 0) (.int .u32 0) (.string (readN n f x.pl x.num)) (.int .i64 ((chkN n x.pl x.num).code)) rfl ?_) rfl ⟨rfl, ?_, ?_⟩
  · exact heap_setCell_same (i := 3) _ (heap_setCell_same (i := 2) _ (heap_setCell_same (i := 1) _ (heap_setCell_same (i := 0) _ ((Below.heap_setCell _ _ _ _ (by show w.heap.size + 1 ≠ w.heap.size + 1 + 1; omega)).trans ((Below.heap_setCell _ _ _ _ (by show w.heap.size + 1 ≠ w.heap.size + 1 + 1; omega)).trans (B1.out))))))
  · exact (RefV.setC (RefV.setC (RefV.setC (RefV.setC (RefV.setC (RefV.setC HA2.out hne.1.2 hne.2.2) hne.1.2 hne.2.2) hne.1.1 hne.2.1) hne.1.1 hne.2.1) hne.1.1 hne.2.1) hne.1.1 hne.2.1)
  · exact (grown_fresh (grown_fresh (grown_fresh (grown_fresh (grown_fresh (grown_fresh HGR.out (by omega)) (by omega)) (by omega)) (by omega)) (by omega)) (by omega))

set_option maxHeartbeats 2000000 in
set_option maxRecDepth 20000 in
theorem want_5 {w : World} {p g n : Nat} {f : Nat → Nat} (hA : RefV w p g n f) (x : XOp) (_hV : x.v < 4294967296) (hs : x.s.size ≤ 1000000) (hk : x.kind = 5) :
    Calls Tryd.prog 20 #[.pointer (some ⟨p, 0, none⟩), x.val] w fun r w' => r = .returned (.agg #[.int .i64 0, .int .u32 0, .string ⟨#[]⟩, .int .i64 ((chkN n x.pl x.s.size).code)]) ∧ RefV w' p g n (writeF n f x.pl x.s) ∧ w.grownBy w' (some g) := by
  obtain ⟨w1, hw1, a0, a1, b0, b1, b2⟩ := allocs3 w (.cells #[.int .i64 x.kind, .int .i64 x.pl, .int .i64 x.num, .int .u32 (x.v : Int), .string x.s] 44) (.cells #[.int .i64 0, .int .u32 0, .string ⟨#[]⟩, .int .i64 0] 41) (.cells #[.int .i64 0, .int .u32 0, .string ⟨#[]⟩, .int .i64 0] 41)
  rw [hk] at hw1 b0
  have hA1 := hA.next a0
  have C := writeR hA1 x.pl x.s hs
  have k0 := cells_cell (i := 0) b0 (v := .int .i64 5) rfl
  have k1 := cells_cell (i := 1) b0 (v := .int .i64 x.pl) rfl
  have k2 := cells_cell (i := 2) b0 (v := .int .i64 x.num) rfl
  have k3 := cells_cell (i := 3) b0 (v := .int .u32 (x.v : Int)) rfl
  have k4 := cells_cell (i := 4) b0 (v := .string x.s) rfl
  have hne : (p ≠ w.heap.size + 1 ∧ p ≠ w.heap.size + 1 + 1) ∧ (g ≠ w.heap.size + 1 ∧ g ≠ w.heap.size + 1 + 1) := by
    have := block_lt hA.box
    have := hA.arr.lt
    omega
  have hgr1 := grown_below a0 (some g)
  have HA1 := Lib.hid hA1
  have H1 := Lib.hid hw1
  clear hw1 hA hA1 a1 b0 a0
  unfold XOp.val
  rw [hk]
  clear hk
  go_enter Tryd.func20, Tryd.ntmps20
  go_wp2_with fail
  rw [H1.out]
  go_wp2_with fail
  refine C.mono ?_
  rintro r w2 ⟨rfl, hA2, hg2⟩
  replace b1 := grown_block hg2 (fun e => hne.2.1 e.symm) b1
  replace b2 := grown_block hg2 (fun e => hne.2.2 e.symm) b2
  have hgr := grown_trans hgr1 hg2
  have d0 := cells_cell (i := 0) b2 (v := .int .i64 0) rfl
  have d1 := cells_cell (i := 1) b2 (v := .int .u32 0) rfl
  have d2 := cells_cell (i := 2) b2 (v := .string ⟨#[]⟩) rfl
  have d3 := cells_cell (i := 3) b2 (v := .int .i64 0) rfl
  have d4 := cells_free (i := 0) b2
  have d5 := cells_free (i := 1) b2
  have d6 := cells_free (i := 2) b2
  have d7 := cells_free (i := 3) b2
  have e0 := cells_cell (i := 0) b1 (v := .int .i64 0) rfl
  have e1 := cells_cell (i := 1) b1 (v := .int .u32 0) rfl
  have e2 := cells_cell (i := 2) b1 (v := .string ⟨#[]⟩) rfl
  have e3 := cells_cell (i := 3) b1 (v := .int .i64 0) rfl
  have e4 := cells_free (i := 0) b1
  have e5 := cells_free (i := 1) b1
  have e6 := cells_free (i := 2) b1
  have e7 := cells_free (i := 3) b1
  have HA2 := Lib.hid hA2
  have HGR := Lib.hid hgr
  have B1 := Lib.hid b1
  clear C k0 k1 k2 k3 k4 b1 b2 hA2 hgr hgr1
  go_wp2
  refine bodyPost_ret (results_said rfl _ _ (w.heap.size + 1) (.int .i64 0) (.int .u32 0) (.string ⟨#[]⟩) (.int .i64 ((chkN n x.pl x.s.size).code)) rfl ?_) rfl ⟨rfl, ?_, ?_⟩
  · exact heap_setCell_same (i := 3) _ (heap_setCell_same (i := 2) _ (heap_setCell_same (i := 1) _ (heap_setCell_same (i := 0) _ ((Below.heap_setCell _ _ _ _ (by show w.heap.size + 1 ≠ w.heap.size + 1 + 1; omega)).trans (B1.out)))))
  · exact (RefV.setC (RefV.setC (RefV.setC (RefV.setC (RefV.setC HA2.out hne.1.2 hne.2.2) hne.1.1 hne.2.1) hne.1.1 hne.2.1) hne.1.1 hne.2.1) hne.1.1 hne.2.1)
  · exact (grown_fresh (grown_fresh (grown_fresh (grown_fresh (grown_fresh HGR.out (by omega)) (by omega)) (by omega)) (by omega)) (by omega))

set_option maxHeartbeats 2000000 in
set_option maxRecDepth 20000 in
theorem want_6 {w : World} {p g n : Nat} {f : Nat → Nat} (hA : RefV w p g n f) (x : XOp) (_hV : x.v < 4294967296) (_hs : x.s.size ≤ 1000000) (hk : x.kind = 6) :
    Calls Tryd.prog 20 #[.pointer (some ⟨p, 0, none⟩), x.val] w fun r w' => r = .returned (.agg #[.int .i64 0, .int .u32 0, .string ⟨#[]⟩, .int .i64 ((chkN n x.pl x.num).code)]) ∧ RefV w' p g n (zeroF n f x.pl x.num) ∧ w.grownBy w' (some g) := by
  obtain ⟨w1, hw1, a0, a1, b0, b1, b2⟩ := allocs3 w (.cells #[.int .i64 x.kind, .int .i64 x.pl, .int .i64 x.num, .int .u32 (x.v : Int), .string x.s] 44) (.cells #[.int .i64 0, .int .u32 0, .string ⟨#[]⟩, .int .i64 0] 41) (.cells #[.int .i64 0, .int .u32 0, .string ⟨#[]⟩, .int .i64 0] 41)
  rw [hk] at hw1 b0
  have hA1 := hA.next a0
  have C := zeroR hA1 x.pl x.num
  have k0 := cells_cell (i := 0) b0 (v := .int .i64 6) rfl
  have k1 := cells_cell (i := 1) b0 (v := .int .i64 x.pl) rfl
  have k2 := cells_cell (i := 2) b0 (v := .int .i64 x.num) rfl
  have k3 := cells_cell (i := 3) b0 (v := .int .u32 (x.v : Int)) rfl
  have k4 := cells_cell (i := 4) b0 (v := .string x.s) rfl
  have hne : (p ≠ w.heap.size + 1 ∧ p ≠ w.heap.size + 1 + 1) ∧ (g ≠ w.heap.size + 1 ∧ g ≠ w.heap.size + 1 + 1) := by
    have := block_lt hA.box
    have := hA.arr.lt
    omega
  have hgr1 := grown_below a0 (some g)
  have HA1 := Lib.hid hA1
  have H1 := Lib.hid hw1
  clear hw1 hA hA1 a1 b0 a0
  unfold XOp.val
  rw [hk]
  clear hk
  go_enter Tryd.func20, Tryd.ntmps20
  go_wp2_with fail
  rw [H1.out]
  go_wp2_with fail
  refine C.mono ?_
  rintro r w2 ⟨rfl, hA2, hg2⟩
  replace b1 := grown_block hg2 (fun e => hne.2.1 e.symm) b1
  replace b2 := grown_block hg2 (fun e => hne.2.2 e.symm) b2
  have hgr := grown_trans hgr1 hg2
  have d0 := cells_cell (i := 0) b2 (v := .int .i64 0) rfl
  have d1 := cells_cell (i := 1) b2 (v := .int .u32 0) rfl
  have d2 := cells_cell (i := 2) b2 (v := .string ⟨#[]⟩) rfl
  have d3 := cells_cell (i := 3) b2 (v := .int .i64 0) rfl
  have d4 := cells_free (i := 0) b2
  have d5 := cells_free (i := 1) b2
  have d6 := cells_free (i := 2) b2
  have d7 := cells_free (i := 3) b2
  have e0 := cells_cell (i := 0) b1 (v := .int .i64 0) rfl
  have e1 := cells_cell (i := 1) b1 (v := .int .u32 0) rfl
  have e2 := cells_cell (i := 2) b1 (v := .string ⟨#[]⟩) rfl
  have e3 := cells_cell (i := 3) b1 (v := .int .i64 0) rfl
  have e4 := cells_free (i := 0) b1
  have e5 := cells_free (i := 1) b1
  have e6 := cells_free (i := 2) b1
  have e7 := cells_free (i := 3) b1
  have HA2 := Lib.hid hA2
  have HGR := Lib.hid hgr
  have B1 := Lib.hid b1
  clear C k0 k1 k2 k3 k4 b1 b2 hA2 hgr hgr1
  go_wp2
  refine bodyPost_ret (results_said rfl _ _ (w.heap.size + 1) (.int .i64 0) (.int .u32 0) (.string ⟨#[]⟩) (.int .i64 ((chkN n x.pl x.num).code)) rfl ?_) rfl ⟨rfl, ?_, ?_⟩
  · exact heap_setCell_same (i := 3) _ (heap_setCell_same (i := 2) _ (heap_setCell_same (i := 1) _ (heap_setCell_same (i := 0) _ ((Below.heap_setCell _ _ _ _ (by show w.heap.size + 1 ≠ w.heap.size + 1 + 1; omega)).trans (B1.out)))))
  · exact (RefV.setC (RefV.setC (RefV.setC (RefV.setC (RefV.setC HA2.out hne.1.2 hne.2.2) hne.1.1 hne.2.1) hne.1.1 hne.2.1) hne.1.1 hne.2.1) hne.1.1 hne.2.1)
  · exact (grown_fresh (grown_fresh (grown_fresh (grown_fresh (grown_fresh HGR.out (by omega)) (by omega)) (by omega)) (by omega)) (by omega))

set_option maxHeartbeats 2000000 in
set_option maxRecDepth 20000 in
theorem want_none {w : World} {p g n : Nat} {f : Nat → Nat} (hA : RefV w p g n f) (x : XOp) (h0 : ¬ x.kind = 0) (h1 : ¬ x.kind = 1) (h2 : ¬ x.kind = 2) (h3 : ¬ x.kind = 3) (h4 : ¬ x.kind = 4) (h5 : ¬ x.kind = 5) (h6 : ¬ x.kind = 6) :
    Calls Tryd.prog 20 #[.pointer (some ⟨p, 0, none⟩), x.val] w fun r w' => r = .returned (.agg #[.int .i64 0, .int .u32 0, .string ⟨#[]⟩, .int .i64 0]) ∧ RefV w' p g n f ∧ w.grownBy w' (some g) := by
  obtain ⟨w1, hw1, a0, a1, b0, b1, b2⟩ := allocs3 w (.cells #[.int .i64 x.kind, .int .i64 x.pl, .int .i64 x.num, .int .u32 (x.v : Int), .string x.s] 44) (.cells #[.int .i64 0, .int .u32 0, .string ⟨#[]⟩, .int .i64 0] 41) (.cells #[.int .i64 0, .int .u32 0, .string ⟨#[]⟩, .int .i64 0] 41)
  have k0 := cells_cell (i := 0) b0 (v := .int .i64 x.kind) rfl
  have hne : (p ≠ w.heap.size + 1 ∧ p ≠ w.heap.size + 1 + 1) ∧ (g ≠ w.heap.size + 1 ∧ g ≠ w.heap.size + 1 + 1) := by
    have := block_lt hA.box
    have := hA.arr.lt
    omega
  have HGR := Lib.hid (grown_below a0 (some g))
  have HA2 := Lib.hid (hA.next a0)
  have d0 := cells_cell (i := 0) b2 (v := .int .i64 0) rfl
  have d1 := cells_cell (i := 1) b2 (v := .int .u32 0) rfl
  have d2 := cells_cell (i := 2) b2 (v := .string ⟨#[]⟩) rfl
  have d3 := cells_cell (i := 3) b2 (v := .int .i64 0) rfl
  have e0 := cells_cell (i := 0) b1 (v := .int .i64 0) rfl
  have e1 := cells_cell (i := 1) b1 (v := .int .u32 0) rfl
  have e2 := cells_cell (i := 2) b1 (v := .string ⟨#[]⟩) rfl
  have e3 := cells_cell (i := 3) b1 (v := .int .i64 0) rfl
  have e4 := cells_free (i := 0) b1
  have e5 := cells_free (i := 1) b1
  have e6 := cells_free (i := 2) b1
  have e7 := cells_free (i := 3) b1
  have B1 := Lib.hid b1
  have H1 := Lib.hid hw1
  clear hw1 hA a1 b0 a0 b1 b2
  unfold XOp.val
  have s0 : (x.kind == 0) = false := beq_eq_false_iff_ne.2 h0
  generalize x.kind = kk at *
  go_enter Tryd.func20, Tryd.ntmps20
  go_wp2_with fail
  rw [H1.out]
  go_wp2
  refine bodyPost_ret (results_said rfl _ _ (w.heap.size + 1) (.int .i64 0) (.int .u32 0) (.string ⟨#[]⟩) (.int .i64 0) rfl ?_) rfl ⟨rfl, ?_, ?_⟩
  · exact B1.out
  · exact HA2.out
  · exact HGR.out

theorem want_N {w : World} {p g n : Nat} {f : Nat → Nat} (hA : RefV w p g n f) (x : XOp) (hV : x.v < 4294967296) (hs : x.s.size ≤ 1000000) :
    Calls Tryd.prog 20 #[.pointer (some ⟨p, 0, none⟩), x.val] w fun r w' => r = .returned (.agg #[.int .i64 (doI n f x), .int .u32 ((doV n f x : Nat) : Int), .string (doS n f x), .int .i64 (doE n x)]) ∧ RefV w' p g n (doF n f x) ∧ w.grownBy w' (some g) := by
  by_cases h0 : x.kind = 0
  · simpa [doI, doV, doS, doE, doF, h0] using want_0 hA x hV hs h0
  by_cases h1 : x.kind = 1
  · simpa [doI, doV, doS, doE, doF, h1] using want_1 hA x hV hs h1
  by_cases h2 : x.kind = 2
  · simpa [doI, doV, doS, doE, doF, h2] using want_2 hA x hV hs h2
  by_cases h3 : x.kind = 3
  · simpa [doI, doV, doS, doE, doF, h3] using want_3 hA x hV hs h3
  by_cases h4 : x.kind = 4
  · simpa [doI, doV, doS, doE, doF, h4] using want_4 hA x hV hs h4
  by_cases h5 : x.kind = 5
  · simpa [doI, doV, doS, doE, doF, h5] using want_5 hA x hV hs h5
  by_cases h6 : x.kind = 6
  · simpa [doI, doV, doS, doE, doF, h6] using want_6 hA x hV hs h6
  simpa [doI, doV, doS, doE, doF, h0, h1, h2, h3, h4, h5, h6] using want_none hA x h0 h1 h2 h3 h4 h5 h6
end Go.Proofs.YtjoghbpekpgkpaaDoor

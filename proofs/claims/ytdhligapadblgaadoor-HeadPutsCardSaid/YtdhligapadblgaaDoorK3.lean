/- Layer head: the bytes of a head, one by one. -/
import Derived.Test.YtdhligapadblgaaDoorK2
import Derived.RangeFuncCalls
import Derived.Shelf.RegionOpen
import Derived.Laws.BitsAllLaws
namespace Go.Proofs.YtdhligapadblgaaDoor
open Go Go.RowKit Go.Shelf
attribute [local go_sem ↓] Go.wp_at_zero Go.wp_at_succ
attribute [local go_sem] Oper.semAt_some
attribute [local go_sem ↓] run_idx4_0 run_idx4_1 run_idx4_2 run_idx4_3

/-- An iterator's value, never stopped: called at a loop's yield, it hands the members of xs one by one, in order. -/
def GivesT {α : Type} (P : Program) (g : Nat) (lb : Array Value) (enc : α → Value) (xs : List α) (S : Nat → Prop) (W0 : World) : Prop :=
  ∀ (l : Nat) (J : List α → World → Prop) (W : World), Sam S W0 W →
    (∀ pre W1 W2, J pre W1 → Below W1.heap.size W1 W2 → J pre W2) →
    (∀ pre x post W1, xs = pre ++ x :: post → J pre W1 → Sam S W0 W1 → YieldAt Fence.wide 8 P l #[enc x] W1 fun e W' => e = .returned (.bool true) ∧ J (pre ++ [x]) W' ∧ Sam S W0 W') →
    J [] W →
    CallsIn Fence.wide 9 P g (#[.func (.yield l) #[] #[]] ++ lb) W fun e W' => (∃ v, e = .returned v) ∧ J xs W'

/-- The bytes of a head, without the last one; the last one. -/
def headN (k c e l : Nat) : List Nat := [181, k % 256, c % 256, e % 256, l % 256, l / 256 % 256, l / 256 / 256 % 256]
def headX (k c e l : Nat) : Nat := 181 ^^^ (k % 256) ^^^ (c % 256) ^^^ (e % 256) ^^^ (l % 256) ^^^ (l / 256 % 256) ^^^ (l / 256 / 256 % 256)
def headL (k c e l : Nat) : List Nat := headN k c e l ++ [headX k c e l]

theorem bytes_any (g : Nat) (w : World) : Calls Tryd.prog 31 #[.pointer (some ⟨g, 0, none⟩)] w fun r w' => r = .returned (.func (.func 44) #[] #[.pointer (some ⟨w.heap.size, 0, none⟩)]) ∧ w.alloc (.cells #[.pointer (some ⟨g, 0, none⟩)] 60) = w' := by
  go_enter Tryd.func31, Tryd.ntmps31
  go_wp2
  go_ret
  exact ⟨rfl, rfl⟩

theorem wrap64_small (n : Nat) (h : n ≤ 1000000) : wrap64 (n : Int) = (n : Int) := by unfold wrap64; omega
theorem xor_lt8 {a b : Nat} (ha : a < 256) (hb : b < 256) : a ^^^ b < 256 := Nat.xor_lt_two_pow (n := 8) ha hb

set_option maxHeartbeats 8000000 in
set_option maxRecDepth 40000 in
theorem bytes1_gives {w : World} {S : Nat → Prop} {C B : Nat} {t : TypeId} {k c e l : Nat} (hC : w.cell? ⟨C, 0, none⟩ = some (.pointer (some ⟨B, 0, none⟩))) (hB : w.heap[B]? = some (.cells #[.int .i64 (k : Int), .int .i64 (l : Int), .int .i64 (c : Int), .int .i64 (e : Int)] t (0, 0)))
    (h2 : w.cell? ⟨1, 2, none⟩ = some (.int .i64 1)) (h5 : w.cell? ⟨1, 5, none⟩ = some (.int .i64 1)) (h8 : w.cell? ⟨1, 8, none⟩ = some (.int .i64 1)) (h11 : w.cell? ⟨1, 11, none⟩ = some (.int .i64 3))
    (hSC : ¬ S C) (hSB : ¬ S B) (hSG : ¬ S 1) (hk : k ≤ 1000000) (hc : c ≤ 1000000) (he : e ≤ 1000000) (hl : l ≤ 1000000) :
    GivesT Tryd.prog 44 #[.pointer (some ⟨C, 0, none⟩)] (fun n : Nat => .int .u8 (n : Int)) (headL k c e l) S w := by
  intro lp J W hS hJ hY h0
  have Bk : k % 256 < 256 := Nat.mod_lt _ (by decide)
  have Bc : c % 256 < 256 := Nat.mod_lt _ (by decide)
  have Be : e % 256 < 256 := Nat.mod_lt _ (by decide)
  have Bl : l % 256 < 256 := Nat.mod_lt _ (by decide)
  have Bm : l / 256 % 256 < 256 := Nat.mod_lt _ (by decide)
  have Bn : l / 256 / 256 % 256 < 256 := Nat.mod_lt _ (by decide)
  have Tk : (k : Int).tmod 256 = ((k % 256 : Nat) : Int) := by rw [Int.tmod_eq_emod_of_nonneg (by omega)]; omega
  have Tc : (c : Int).tmod 256 = ((c % 256 : Nat) : Int) := by rw [Int.tmod_eq_emod_of_nonneg (by omega)]; omega
  have Te : (e : Int).tmod 256 = ((e % 256 : Nat) : Int) := by rw [Int.tmod_eq_emod_of_nonneg (by omega)]; omega
  have Tl : (l : Int).tmod 256 = ((l % 256 : Nat) : Int) := by rw [Int.tmod_eq_emod_of_nonneg (by omega)]; omega
  have Tm : ((l / 256 : Nat) : Int).tmod 256 = ((l / 256 % 256 : Nat) : Int) := by rw [Int.tmod_eq_emod_of_nonneg (by omega)]; omega
  have Tn : ((l / 256 / 256 : Nat) : Int).tmod 256 = ((l / 256 / 256 % 256 : Nat) : Int) := by rw [Int.tmod_eq_emod_of_nonneg (by omega)]; omega
  have Dl : (l : Int) / 256 = ((l / 256 : Nat) : Int) := by omega
  have Dm : ((l / 256 : Nat) : Int) / 256 = ((l / 256 / 256 : Nat) : Int) := by omega
  have WL1 : wrap64 ((l / 256 : Nat) : Int) = ((l / 256 : Nat) : Int) := wrap64_small _ (Nat.le_trans (Nat.div_le_self _ _) hl)
  have WL2 : wrap64 ((l / 256 / 256 : Nat) : Int) = ((l / 256 / 256 : Nat) : Int) := wrap64_small _ (Nat.le_trans (Nat.div_le_self _ _) (Nat.le_trans (Nat.div_le_self _ _) hl))
  have hxs : headL k c e l = [181, k % 256, c % 256, e % 256, l % 256, l / 256 % 256, l / 256 / 256 % 256, headX k c e l] := rfl
  unfold headX at hxs
  rw [hxs] at hY ⊢
  clear hxs
  generalize k % 256 = b1 at *
  generalize c % 256 = b2 at *
  generalize e % 256 = b3 at *
  generalize l % 256 = b4 at *
  generalize l / 256 / 256 % 256 = b6 at *
  generalize l / 256 / 256 = l2 at *
  generalize l / 256 % 256 = b5 at *
  generalize l / 256 = l1 at *
  have X1 := u8_xor_nat 181 b1 (by decide) Bk
  have Y1 : 181 ^^^ b1 < 256 := xor_lt8 (by decide) Bk
  generalize 181 ^^^ b1 = x1 at *
  have X2 := u8_xor_nat x1 b2 (Y1) Bc
  have Y2 : x1 ^^^ b2 < 256 := xor_lt8 (Y1) Bc
  generalize x1 ^^^ b2 = x2 at *
  have X3 := u8_xor_nat x2 b3 (Y2) Be
  have Y3 : x2 ^^^ b3 < 256 := xor_lt8 (Y2) Be
  generalize x2 ^^^ b3 = x3 at *
  have X4 := u8_xor_nat x3 b4 (Y3) Bl
  have Y4 : x3 ^^^ b4 < 256 := xor_lt8 (Y3) Bl
  generalize x3 ^^^ b4 = x4 at *
  have X5 := u8_xor_nat x4 b5 (Y4) Bm
  have Y5 : x4 ^^^ b5 < 256 := xor_lt8 (Y4) Bm
  generalize x4 ^^^ b5 = x5 at *
  have X6 := u8_xor_nat x5 b6 (Y5) Bn
  have Y6 : x5 ^^^ b6 < 256 := xor_lt8 (Y5) Bn
  generalize x5 ^^^ b6 = x6 at *
  rw [show ((181 : Nat) : Int) = 181 from rfl] at X1
  have U1 : IntKind.u8.wrap (b1 : Int) = (b1 : Int) := by rw [IntKind.wrap_u8']; omega
  have U2 : IntKind.u8.wrap (b2 : Int) = (b2 : Int) := by rw [IntKind.wrap_u8']; omega
  have U3 : IntKind.u8.wrap (b3 : Int) = (b3 : Int) := by rw [IntKind.wrap_u8']; omega
  have U4 : IntKind.u8.wrap (b4 : Int) = (b4 : Int) := by rw [IntKind.wrap_u8']; omega
  have U5 : IntKind.u8.wrap (b5 : Int) = (b5 : Int) := by rw [IntKind.wrap_u8']; omega
  have U6 : IntKind.u8.wrap (b6 : Int) = (b6 : Int) := by rw [IntKind.wrap_u8']; omega
  have HY := Lib.hid hY
  have HJ := Lib.hid hJ
  have HB := Lib.hid hB
  have HC := Lib.hid hC
  have H2 := Lib.hid h2
  have H5 := Lib.hid h5
  have H8 := Lib.hid h8
  have H11 := Lib.hid h11
  clear hY hJ hB hC h2 h5 h8 h11 Bk Bc Be Bl Bm Bn Y1 Y2 Y3 Y4 Y5 Y6 hk hc he hl
  refine callsIn_of_wp Tryd.func44 rfl trivial ?_ rfl
  simp only [Tryd.ntmps44, List.size_toArray, List.length_cons, List.length_nil, Nat.reduceAdd, Nat.reduceSub, Array.replicate_succ, Array.replicate_zero, List.push_toArray, List.append_toArray, List.nil_append, List.cons_append]
  obtain ⟨fn1, tm1, as1, bo1, hy1, hR1⟩ := HY.out [] 181 [b1, b2, b3, b4, b5, b6, x6] W rfl h0 hS
  have HR := Lib.hid hR1
  replace hy1 : (Instr.yield lp #[.int .u8 181]).run Tryd.prog W = _ := hy1
  clear hR1
  clear h0 hS
  refine wpIn_scope_straight ?_
  gi_wp2
  refine HR.out.mono ?_
  clear HR hy1
  rintro r W1 ⟨rfl, hj, hs⟩
  have HJ1 := Lib.hid hj
  clear hj
  have cC := hs.cell HC.out hSC
  have bB := (hs.same B (block_lt HB.out) hSB).trans HB.out
  have N := numbers_any bB
  clear bB
  gi_wp2
  refine wpIn_label ?_
  gi_wp2
  refine ⟨trivial, (callsIn_wide.2 N).mono ?_⟩
  rintro r W2 ⟨rfl, hb⟩
  have HJ1 := Lib.hid (HJ.out _ _ _ HJ1.out hb)
  replace hs := hs.below hb
  clear N hb cC
  have c2 := hs.cell H2.out hSG
  gi_wp2
  refine wpIn_loop_rounds 5 ?_
  rw [roundsIn_succ]
  gi_wp2
  refine wpIn_loop_rounds 2 ?_
  rw [roundsIn_succ]
  obtain ⟨fn1, tm1, as1, bo1, hy1, hR1⟩ := HY.out [181] b1 [b2, b3, b4, b5, b6, x6] W2 rfl HJ1.out hs
  have HR := Lib.hid hR1
  clear hR1
  clear hs c2 HJ1
  gi_wp2
  refine HR.out.mono ?_
  clear HR hy1
  rintro r V1 ⟨rfl, hj, hs⟩
  have HJ2 := Lib.hid hj
  clear hj
  gi_wp2
  rw [roundsIn_succ]
  gi_wp2
  rw [roundsIn_succ]
  have c2 := hs.cell H5.out hSG
  gi_wp2
  refine wpIn_loop_rounds 2 ?_
  rw [roundsIn_succ]
  obtain ⟨fn1, tm1, as1, bo1, hy1, hR1⟩ := HY.out [181, b1] b2 [b3, b4, b5, b6, x6] V1 rfl HJ2.out hs
  have HR := Lib.hid hR1
  clear hR1
  clear hs c2 HJ2
  gi_wp2
  refine HR.out.mono ?_
  clear HR hy1
  rintro r V2 ⟨rfl, hj, hs⟩
  have HJ3 := Lib.hid hj
  clear hj
  gi_wp2
  rw [roundsIn_succ]
  gi_wp2
  rw [roundsIn_succ]
  have c2 := hs.cell H8.out hSG
  gi_wp2
  refine wpIn_loop_rounds 2 ?_
  rw [roundsIn_succ]
  obtain ⟨fn1, tm1, as1, bo1, hy1, hR1⟩ := HY.out [181, b1, b2] b3 [b4, b5, b6, x6] V2 rfl HJ3.out hs
  have HR := Lib.hid hR1
  clear hR1
  clear hs c2 HJ3
  gi_wp2
  refine HR.out.mono ?_
  clear HR hy1
  rintro r V3 ⟨rfl, hj, hs⟩
  have HJ4 := Lib.hid hj
  clear hj
  gi_wp2
  rw [roundsIn_succ]
  gi_wp2
  rw [roundsIn_succ]
  have c2 := hs.cell H11.out hSG
  gi_wp2
  refine wpIn_loop_rounds 4 ?_
  rw [roundsIn_succ]
  obtain ⟨fn1, tm1, as1, bo1, hy1, hR1⟩ := HY.out [181, b1, b2, b3] b4 [b5, b6, x6] V3 rfl HJ4.out hs
  have HR := Lib.hid hR1
  clear hR1
  clear hs c2 HJ4
  gi_wp2
  refine HR.out.mono ?_
  clear HR hy1
  rintro r V4 ⟨rfl, hj, hs⟩
  have HJ5 := Lib.hid hj
  clear hj
  gi_wp2
  rw [roundsIn_succ]
  obtain ⟨fn1, tm1, as1, bo1, hy1, hR1⟩ := HY.out [181, b1, b2, b3, b4] b5 [b6, x6] V4 rfl HJ5.out hs
  have HR := Lib.hid hR1
  clear hR1
  clear hs HJ5
  gi_wp2
  refine HR.out.mono ?_
  clear HR hy1
  rintro r V5 ⟨rfl, hj, hs⟩
  have HJ6 := Lib.hid hj
  clear hj
  gi_wp2
  rw [roundsIn_succ]
  obtain ⟨fn1, tm1, as1, bo1, hy1, hR1⟩ := HY.out [181, b1, b2, b3, b4, b5] b6 [x6] V5 rfl HJ6.out hs
  have HR := Lib.hid hR1
  clear hR1
  clear hs HJ6
  gi_wp2
  refine HR.out.mono ?_
  clear HR hy1
  rintro r V6 ⟨rfl, hj, hs⟩
  have HJ7 := Lib.hid hj
  clear hj
  gi_wp2
  rw [roundsIn_succ]
  gi_wp2
  rw [roundsIn_succ]
  obtain ⟨fn1, tm1, as1, bo1, hy1, hR1⟩ := HY.out [181, b1, b2, b3, b4, b5, b6] x6 [] V6 rfl HJ7.out hs
  have HR := Lib.hid hR1
  clear hR1
  clear hs HJ7
  gi_wp2
  refine HR.out.mono ?_
  clear HR hy1
  rintro r V7 ⟨rfl, hj, hs⟩
  have HJ8 := Lib.hid hj
  clear hj
  gi_wp2
  rw [Exit.noGoto_normal]
  go_end0
  exact ⟨⟨_, rfl⟩, HJ8.out⟩
end Go.Proofs.YtdhligapadblgaaDoor

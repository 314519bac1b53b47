/- Layer arena: each: the bytes, one by one. -/
import Derived.Test.YtjoghbpekpgkpaaDoorN4
import Derived.RangeFuncCalls
import Derived.Shelf.RegionOpen
import Derived.Laws.BitsAllLaws
namespace Go.Proofs.YtjoghbpekpgkpaaDoor
open Go Go.RowKit Go.Shelf
attribute [local go_sem ↓] Go.wp_at_zero Go.wp_at_succ
attribute [local go_sem] Oper.semAt_some

theorem each_any (p : Nat) (a k : Int) (w : World) : Calls Tryd.prog 30 #[.pointer (some ⟨p, 0, none⟩), .int .i64 a, .int .i64 k] w fun r w' =>
    r = .returned (.func (.func 42) #[] #[.pointer (some ⟨w.heap.size, 0, none⟩), .pointer (some ⟨w.heap.size + 1, 0, none⟩), .pointer (some ⟨w.heap.size + 1 + 1, 0, none⟩)]) ∧
    ((w.alloc (.cells #[.pointer (some ⟨p, 0, none⟩)] 79)).alloc (.cells #[.int .i64 a] 3)).alloc (.cells #[.int .i64 k] 3) = w' := by
  go_enter Tryd.func30, Tryd.ntmps30
  go_wp2
  go_ret
  exact ⟨rfl, rfl⟩

set_option maxHeartbeats 4000000 in
set_option maxRecDepth 20000 in
theorem each1_gives {w : World} {s0 s1 s2 p g n A K : Nat} (c0 : w.cell? ⟨s0, 0, none⟩ = some (.pointer (some ⟨p, 0, none⟩))) (c1 : w.cell? ⟨s1, 0, none⟩ = some (.int .i64 (A : Int))) (c2 : w.cell? ⟨s2, 0, none⟩ = some (.int .i64 (K : Int)))
    (c3 : w.cell? ⟨p, 0, none⟩ = some (.slice (some ⟨g, 0, none⟩) n n)) (hAK : A + K ≤ n) (hn : n ≤ 1000000) (l : Nat) (J : Nat → World → Prop)
    (hY : ∀ i W1, i < K → J i W1 → ∃ x : Nat, W1.cell? ⟨g, A + i, none⟩ = some (.int .u8 (x : Int)) ∧ YieldAt Fence.wide 8 Tryd.prog l #[.int .i64 (i : Int), .int .u8 (x : Int)] W1 fun e W' => e = .returned (.bool true) ∧ J (i + 1) W')
    (hJ : ∀ i W1 W2, J i W1 → Below W1.heap.size W1 W2 → J i W2) (h0 : J 0 w) :
    CallsIn Fence.wide 9 Tryd.prog 42 (#[.func (.yield l) #[] #[]] ++ #[.pointer (some ⟨s0, 0, none⟩), .pointer (some ⟨s1, 0, none⟩), .pointer (some ⟨s2, 0, none⟩)]) w fun e W' => (∃ v, e = .returned v) ∧ J K W' := by
  have wv : IntKind.i64.wrap ((A : Int) + K) = (A : Int) + K := IntWalk.i64_in _ (by omega)
  have HY := Lib.hid hY
  have H0 := Lib.hid (hJ 0 w w.drew h0 (Below.refl _ _).drew)
  clear hY h0 hJ
  refine callsIn_of_wp Tryd.func42 rfl trivial ?_ rfl
  simp only [Tryd.ntmps42, List.size_toArray, List.length_cons, List.length_nil, Nat.reduceAdd, Nat.reduceSub, Array.replicate_succ, Array.replicate_zero, List.push_toArray, List.append_toArray, List.nil_append, List.cons_append]
  gi_wp2
  refine wpIn_scope_straight ?_
  gi_wp2
  refine wpIn_label ?_
  gi_wp2
  gi_region
  have hif : ∃ o, (if n = A then some (⟨g, 0, none⟩ : Addr) else some ⟨g, A, none⟩) = some ⟨g, o, none⟩ ∧ (o = A ∨ K = 0) := by
    by_cases e : n = A
    · exact ⟨0, if_pos e, .inr (by omega)⟩
    · exact ⟨A, if_neg e, .inl rfl⟩
  obtain ⟨o, hif, ho⟩ := hif
  simp only [hif, Nat.add_sub_cancel_left]
  generalize w.drew = wd at *
  clear c0 c1 c2 c3 wv hif
  gi_wp2
  gi_loopw [17] (fun i W' => ∃ k : Nat, k ≤ K ∧ i = .int .i64 k ∧ J k W') (fun i _ => K - (intOf i).toNat)
  case atStart => exact ⟨0, Nat.zero_le _, rfl, H0.out⟩
  case round =>
    obtain ⟨k, hk, rfl, hj⟩ := hrel
    by_cases hlt : k < K
    · obtain rfl : o = A := by omega
      obtain ⟨x, cx, hY1⟩ := HY.out k wr hlt hj
      obtain ⟨fn1, tm1, as1, bo1, hy1, hR1⟩ := hY1
      have HR := Lib.hid hR1
      have hlt' : (k : Int) < (K : Int) := by omega
      clear hj hR1
      gi_wp2
      refine HR.out.mono ?_
      clear HR hy1 cx
      rintro e W2 ⟨rfl, hj⟩
      have HJ := Lib.hid hj
      clear hj
      gi_wp2
      go_round
      case rel => exact ⟨k + 1, by omega, by go_num, HJ.out⟩
      case measure => simp [intOf]; omega
    · obtain rfl : k = K := by omega
      have HJ := Lib.hid hj
      clear hj
      gi_wp2
      rw [Exit.noGoto_normal]
      go_end0
      exact ⟨⟨_, rfl⟩, HJ.out⟩
end Go.Proofs.YtjoghbpekpgkpaaDoor

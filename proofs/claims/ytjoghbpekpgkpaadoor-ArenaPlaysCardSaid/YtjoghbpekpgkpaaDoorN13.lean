/- Layer arena: made: an arena behind some calls. -/
import Derived.Test.YtjoghbpekpgkpaaDoorN12
namespace Go.Proofs.YtjoghbpekpgkpaaDoor
open Go Go.RowKit Go.Shelf
attribute [local go_sem ↓] Go.wp_at_zero Go.wp_at_succ

/-- What calls leave, one behind the other. -/
def playF (n : Nat) (f : Nat → Nat) (l : List XOp) : Nat → Nat := l.foldl (doF n) f
theorem playF_succ {n : Nat} {f : Nat → Nat} {l : List XOp} {k : Nat} (h : k < l.length) : playF n f (l.take (k + 1)) = doF n (playF n f (l.take k)) (l.getD k op0) := by
  unfold playF
  rw [← List.take_append_getElem h, List.foldl_append]
  simp [List.getD, h]
theorem ArB.not_int {W : World} {g n : Nat} {te : TypeId} {f : Nat → Nat} (h : ArB W g te n f) {j : Nat} {z : Int} (hc : W.cell? ⟨g, j, none⟩ = some (.int .i64 z)) : False := by
  obtain ⟨cur, h1, h2, h3⟩ := h.ex
  by_cases hj : j < n
  · rw [h.cell j hj] at hc
    cases hc
  · have : cur[j]? = none := Array.getElem?_eq_none (by omega)
    simp [World.cell?, h1, this] at hc
/-- May so many blocks be? -/
def okN (b : Int) : Bool := decide (1 ≤ b) && decide (b ≤ 32)

set_option maxHeartbeats 2000000 in
set_option maxRecDepth 20000 in
theorem made_no {E : EnvN} {w : World} (hG : GlobN E w) {b : Int} (hb1 : -9223372036854775808 ≤ b) (hb2 : b ≤ 9223372036854775807) (h : okN b = false) (v : Value) :
    Calls Tryd.prog 23 #[.int .i64 b, v] w fun r w' => r = .returned (.tuple #[.pointer none, .bool false]) ∧ Below w.heap.size w w' := by
  have m := new_no hG b hb1 hb2 (by
    unfold okN at h
    rw [Bool.and_eq_false_iff, decide_eq_false_iff_not, decide_eq_false_iff_not] at h
    omega)
  clear hG h hb1 hb2
  go_enter Tryd.func23, Tryd.ntmps23
  go_wp2_with fail
  refine m.mono ?_
  rintro r w1 ⟨rfl, hb⟩
  clear m
  go_wp2
  exact bodyPost_ret (results_tmp2 rfl _ _ _) rfl ⟨rfl, hb⟩

set_option maxHeartbeats 2000000 in
set_option maxRecDepth 20000 in
theorem made_yes {E : EnvN} {w : World} (hG : GlobN E w) {k : Nat} (h1 : 1 ≤ k) (h2 : k ≤ 32) {v : Value} {l : List XOp} (hv : OpsV w v l) :
    Calls Tryd.prog 23 #[.int .i64 (k : Int), v] w fun r w' => (∃ p g, r = .returned (.tuple #[.pointer (some ⟨p, 0, none⟩), .bool true]) ∧ w.heap.size ≤ p ∧ w.heap.size ≤ g ∧ ArenaV w' p g (4096 * k) (playF (4096 * k) (fun _ => 0) (cutO l))) ∧ Below w.heap.size w w' := by
  have m := new_yes hG k h1 h2
  have HG := Lib.hid hG
  clear hG h1 h2
  go_enter Tryd.func23, Tryd.ntmps23
  go_wp2_with fail
  refine m.mono ?_
  rintro r w1 ⟨⟨p, g, rfl, hp, hg, hA⟩, hb⟩
  generalize hn : 4096 * k = n at *
  have HN := Lib.hid hn
  clear hn
  have hS : St E w p g n (fun _ => 0) w1 := ⟨hb, HG.out.below hb, hA, hp, hg⟩
  have m2 := cut_N (hv.below hb)
  clear m hA hb hv
  go_wp2_with fail
  refine m2.mono ?_
  rintro r w2 ⟨⟨v', rfl, hv⟩, hb⟩
  replace hS := hS.read hb
  clear m2 hb
  have hlen20 : (cutO l).length ≤ 20 := by simp [cutO]; omega
  generalize hcm : cutO l = m at *
  have HM := Lib.hid hcm
  clear hcm
  cases hv with
  | empty a cap =>
    go_wp2
    refine wp_loop_rounds 1 ?_
    rw [rounds_succ]
    go_wp2
    exact bodyPost_ret (results_tmp2 rfl _ _ _) rfl ⟨⟨p, g, rfl, hp, hg, by rw [HN.out, HM.out]; exact hS.arena⟩, hS.below⟩
  | some b off cap m hl hm hc =>
    have HC := Lib.hid hc
    have HS := Lib.hid hS
    have hm20 := hlen20
    clear hc hS
    go_wp2
    go_loopw [8] (fun q W => ∃ j : Nat, j ≤ m.length ∧ q = .int .i64 (j : Int) ∧ St E w p g n (playF n (fun _ => 0) (m.take j)) W ∧ (∀ i, i < m.length → OpAt W b (off + i * 5) (m.getD i op0))) (fun q _ => m.length - (intOf q).toNat)
    case atStart => exact ⟨0, Nat.zero_le _, rfl, HS.out, HC.out⟩
    case round =>
      obtain ⟨j, hj, rfl, hS, hO⟩ := hrel
      by_cases hlt : j < m.length
      · have X := hO j hlt
        have hbg : b ≠ g := by
          rintro rfl
          exact hS.arena.arr.not_int X.c0
        have C := do_N hS.glob hS.arena (m.getD j op0)
        unfold XOp.val at C
        rw [← playF_succ hlt] at C
        generalize m.getD j op0 = x at *
        have c0 := X.c0
        have c1 := X.c1
        have c2 := X.c2
        have c3 := X.c3
        have c4 := X.c4
        have HO := Lib.hid hO
        have HSj := Lib.hid hS
        have hlt' : (j : Int) < (m.length : Int) := by omega
        clear hO hS X
        go_wp2_with fail
        refine C.mono ?_
        rintro r w3 ⟨rfl, hA3, hg3⟩
        have HS3 := Lib.hid (HSj.out.write HG.out hA3 hg3)
        have HO3 := Lib.hid (fun i hi => (HO.out i hi).same (hg3.block b (cell_lt (HO.out i hi).c0) (fun e => hbg (Option.some.inj e))))
        clear C c0 c1 c2 c3 c4 hA3 hg3
        go_wp2
        go_round
        case rel => exact ⟨j + 1, by omega, by go_num, HS3.out, HO3.out⟩
        case measure => simp [intOf]; omega
      · obtain rfl : j = m.length := by omega
        rw [List.take_length] at hS
        clear hO
        go_wp2
        exact bodyPost_ret (results_tmp2 rfl _ _ _) rfl ⟨⟨p, g, rfl, hp, hg, by rw [HN.out, HM.out]; exact hS.arena⟩, hS.below⟩
end Go.Proofs.YtjoghbpekpgkpaaDoor

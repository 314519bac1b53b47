/- Two lists of holes compared (the document's Same). -/
import Derived.Test.YtmgllljilnkkcaaDoorH8
namespace Go.Proofs.YtmgllljilnkkcaaDoor
open Go Go.RowKit
attribute [local go_sem ↓] Go.wp_at_zero Go.wp_at_succ

theorem neH_of_getD {l m : List (Nat × Nat)} {k : Nat} (h : l.getD k (0, 0) ≠ m.getD k (0, 0)) : l ≠ m := fun e => h (by rw [e])
theorem eqH_of_getD {l m : List (Nat × Nat)} (h1 : l.length = m.length) (h : ∀ k, k < l.length → l.getD k (0, 0) = m.getD k (0, 0)) : l = m := by
  apply List.ext_getElem h1
  intro i hi hi'
  have := h i hi
  simpa [List.getD, hi, hi'] using this

set_option maxHeartbeats 400000 in
theorem same_any {w : World} {u v : Value} {l m : List (Nat × Nat)} (hu : HolesV w u l) (hv : HolesV w v m) :
    Calls Tryd.prog 13 #[u, v] w fun r w' => r = .returned (.bool (decide (l = m))) ∧ Below w.heap.size w w' := by
  by_cases hlen : l.length = m.length
  · cases hu with
    | empty a cap =>
      have hm0 : m = [] := List.length_eq_zero_iff.1 hlen.symm
      subst hm0
      obtain ⟨a', cap', rfl⟩ := hv.slice
      go_enter Tryd.func13, Tryd.ntmps13
      go_wp2
      refine wp_loop_rounds 1 ?_
      rw [rounds_succ]
      go_wp2
      go_ret
      exact ⟨rfl, Below.refl _ _⟩
    | some b cap l hl hlm hlc =>
      cases hv with
      | empty a' cap' =>
        have hl0 : l = [] := List.length_eq_zero_iff.1 hlen
        subst hl0
        go_enter Tryd.func13, Tryd.ntmps13
        go_wp2
        refine wp_loop_rounds 1 ?_
        rw [rounds_succ]
        go_wp2
        go_ret
        exact ⟨rfl, Below.refl _ _⟩
      | some b' cap' m hm hmm hmc =>
        rw [← hlen] at hmc hm ⊢
        have HL := Lib.hid hlen
        have HLC := Lib.hid hlc
        have HMC := Lib.hid hmc
        clear hlen hlc hmc
        go_enter Tryd.func13, Tryd.ntmps13
        go_wp2
        go_loopw [5] (fun i W => ∃ k : Nat, k ≤ l.length ∧ i = .int .i64 k ∧ (∀ j, j < k → l.getD j (0, 0) = m.getD j (0, 0)) ∧ Below w.heap.size w W) (fun i _ => l.length - (intOf i).toNat)
        case atStart => exact ⟨0, Nat.zero_le _, rfl, fun j hj => by omega, Below.refl _ _⟩
        case round =>
          obtain ⟨k, hk, rfl, hp, hB⟩ := hrel
          have HP := Lib.hid hp
          clear hp
          by_cases hlt : k < l.length
          · have c1 := (hB.cell (p := ⟨b, k * 2, none⟩) (cell_lt (HLC.out k hlt).1)).trans (HLC.out k hlt).1
            have c2 := (hB.cell (p := ⟨b, k * 2 + 1, none⟩) (cell_lt (HLC.out k hlt).2)).trans (HLC.out k hlt).2
            have d1 := (hB.cell (p := ⟨b', k * 2, none⟩) (cell_lt (HMC.out k hlt).1)).trans (HMC.out k hlt).1
            have d2 := (hB.cell (p := ⟨b', k * 2 + 1, none⟩) (cell_lt (HMC.out k hlt).2)).trans (HMC.out k hlt).2
            generalize hx : l.getD k (0, 0) = x at c1 c2
            generalize hy : m.getD k (0, 0) = y at d1 d2
            obtain ⟨x1, x2⟩ := x
            obtain ⟨y1, y2⟩ := y
            have HX := Lib.hid hx
            have HY := Lib.hid hy
            clear hx hy
            simp only at c1 c2 d1 d2
            have he := run_eq_hole (x1 : Int) x2 y1 y2
            by_cases e : x1 = y1 ∧ x2 = y2
            · have he' : ∀ w, (Op.equalIn 10000 29 (.agg #[.int .i64 x1, .int .i64 x2]) (.agg #[.int .i64 y1, .int .i64 y2])).run Tryd.prog w = .ok true w := fun w => by rw [he, e.1, e.2]; simp
              have HE := Lib.hid e
              clear he e
              go_wp2
              first | go_region | skip
              go_wp2
              go_round
              case rel => exact ⟨k + 1, by omega, by go_num, fun j hj => by by_cases hjk : j = k; (subst hjk; rw [HX.out, HY.out, HE.out.1, HE.out.2]); exact HP.out j (by omega), by first | exact hB | exact hB.drew⟩
              case measure => simp [intOf]; omega
            · have he' : ∀ w, (Op.equalIn 10000 29 (.agg #[.int .i64 x1, .int .i64 x2]) (.agg #[.int .i64 y1, .int .i64 y2])).run Tryd.prog w = .ok false w := fun w => by
                rw [he]
                congr 1
                rw [Bool.eq_false_iff]
                simp
                omega
              have HE := Lib.hid e
              clear he e
              go_wp2
              first | go_region | skip
              go_wp2
              go_ret
              have : l ≠ m := neH_of_getD (k := k) (by rw [HX.out, HY.out]; intro h; cases h; exact HE.out ⟨rfl, rfl⟩)
              exact ⟨by rw [decide_eq_false this]; rfl, by first | exact hB | exact hB.drew⟩
          · have hle : l.length ≤ k := by omega
            go_wp2
            go_ret
            have : l = m := eqH_of_getD HL.out (fun j hj => HP.out j (by omega))
            exact ⟨by rw [decide_eq_true this]; rfl, hB⟩
  · obtain ⟨a, cap, rfl⟩ := hu.slice
    obtain ⟨a', cap', rfl⟩ := hv.slice
    have hne : decide (l = m) = false := decide_eq_false fun e => hlen (by rw [e])
    rw [hne]
    clear hu hv hne
    have e1 : ((l.length : Int) == (m.length : Int)) = false := beq_eq_false_iff_ne.2 (by omega)
    have HL := Lib.hid hlen
    clear hlen
    go_enter Tryd.func13, Tryd.ntmps13
    go_wp2
    go_ret
    exact ⟨rfl, Below.refl _ _⟩
end Go.Proofs.YtmgllljilnkkcaaDoor

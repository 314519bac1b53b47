/- Two lists of integers compared (the document's Ints); a list cut at thirty-four (Cut). -/
import Derived.Test.YtlncilcoohmlkaaDoorMx
import Derived.Test.YtlncilcoohmlkaaDoorIl
import Derived.Deep.DrawnRows
namespace Go.Proofs.YtlncilcoohmlkaaDoor
open Go Go.RowKit
attribute [local go_sem ↓] Go.wp_at_zero Go.wp_at_succ
attribute [local go_sem ↓] run_max_int run_min_int

theorem ne_of_getD {l m : List Int} {k : Nat} (h : l.getD k 0 ≠ m.getD k 0) : l ≠ m := fun e => h (by rw [e])
theorem eq_of_getD {l m : List Int} (h1 : l.length = m.length) (h : ∀ k, k < l.length → l.getD k 0 = m.getD k 0) : l = m := by
  apply List.ext_getElem h1
  intro i hi hi'
  have := h i hi
  simpa [List.getD, hi, hi'] using this

theorem ints_any {w : World} {u v : Value} {l m : List Int} (hu : IntsV w u l) (hv : IntsV w v m) :
    Calls Tryd.prog 32 #[u, v] w fun r w' => r = .returned (.bool (decide (l = m))) ∧ Below w.heap.size w w' := by
  by_cases hlen : l.length = m.length
  · cases hu with
    | empty a cap =>
      have hm0 : m = [] := List.length_eq_zero_iff.1 hlen.symm
      subst hm0
      obtain ⟨a', cap', rfl⟩ := hv.slice
      go_enter Tryd.func32, Tryd.ntmps32
      go_wp2
      refine wp_loop_rounds 1 ?_
      rw [rounds_succ]
      go_wp2
      go_ret
      exact ⟨rfl, Below.refl _ _⟩
    | some b off cap l hl hlm hlc =>
      cases hv with
      | empty a' cap' =>
        have hl0 : l = [] := List.length_eq_zero_iff.1 hlen
        subst hl0
        go_enter Tryd.func32, Tryd.ntmps32
        go_wp2
        refine wp_loop_rounds 1 ?_
        rw [rounds_succ]
        go_wp2
        go_ret
        exact ⟨rfl, Below.refl _ _⟩
      | some b' off' cap' m hm hmm hmc =>
        rw [← hlen] at hmc hm ⊢
        have HL := Lib.hid hlen
        clear hlen
        go_enter Tryd.func32, Tryd.ntmps32
        go_wp2
        go_loopw [5] (fun i W => ∃ k : Nat, k ≤ l.length ∧ i = .int .i64 k ∧ (∀ j, j < k → l.getD j 0 = m.getD j 0) ∧ Below w.heap.size w W) (fun i _ => l.length - (intOf i).toNat)
        case atStart => exact ⟨0, Nat.zero_le _, rfl, fun j hj => by omega, Below.refl _ _⟩
        case round =>
          obtain ⟨k, hk, rfl, hp, hB⟩ := hrel
          have HP := Lib.hid hp
          clear hp
          by_cases hlt : k < l.length
          · have c1 := (hB.cell (p := ⟨b, off + k, none⟩) (cell_lt (hlc k hlt))).trans (hlc k hlt)
            have c2 := (hB.cell (p := ⟨b', off' + k, none⟩) (cell_lt (hmc k hlt))).trans (hmc k hlt)
            clear hlc hmc
            generalize hx : l.getD k 0 = x at c1
            generalize hy : m.getD k 0 = y at c2
            have HX := Lib.hid hx
            have HY := Lib.hid hy
            clear hx hy
            by_cases e : x = y
            · subst e
              go_wp2
              go_region
              go_wp2
              go_round
              case rel => exact ⟨k + 1, by omega, by go_num, fun j hj => by by_cases hjk : j = k; (subst hjk; rw [HX.out, HY.out]); exact HP.out j (by omega), hB.drew⟩
              case measure => simp [intOf]; omega
            · have e' : (x == y) = false := by simpa using e
              have HE := Lib.hid e
              clear e
              go_wp2
              go_region
              go_wp2
              go_ret
              have : l ≠ m := ne_of_getD (k := k) (by rw [HX.out, HY.out]; exact HE.out)
              exact ⟨by rw [decide_eq_false this]; rfl, hB.drew⟩
          · clear hlc hmc
            have hle : l.length ≤ k := by omega
            go_wp2
            go_ret
            have : l = m := eq_of_getD HL.out (fun j hj => HP.out j (by omega))
            exact ⟨by rw [decide_eq_true this]; rfl, hB⟩
  · obtain ⟨a, cap, rfl⟩ := hu.slice
    obtain ⟨a', cap', rfl⟩ := hv.slice
    have hne : decide (l = m) = false := decide_eq_false fun e => hlen (by rw [e])
    rw [hne]
    clear hu hv hne
    have e1 : ((l.length : Int) == (m.length : Int)) = false := beq_eq_false_iff_ne.2 (by omega)
    have HL := Lib.hid hlen
    clear hlen
    go_enter Tryd.func32, Tryd.ntmps32
    go_wp2
    go_ret
    exact ⟨rfl, Below.refl _ _⟩

end Go.Proofs.YtlncilcoohmlkaaDoor

/- The document's answers for layer 7, walked. -/
import Derived.Test.YtmgllljilnkkcaaM3
import Derived.Test.YtmgllljilnkkcaaIn
namespace Go.Proofs.Ytmgllljilnkkcaa
open Go Go.RowKit
attribute [local go_sem ↓] Go.wp_at_zero Go.wp_at_succ

set_option maxHeartbeats 400000 in
theorem refRight_any {w : World} {v : Value} {l : List Int} (hv : IntsV w v l) :
    Calls Try.prog 29 #[v] w fun r w' => r = .returned (.bool (rightT l)) ∧ Below w.heap.size w w' := by
  cases hv with
  | empty a cap =>
    go_enter Try.func29, Try.ntmps29
    go_wp2
    refine wp_loop_rounds 1 ?_
    rw [rounds_succ]
    go_wp2
    go_ret
    exact ⟨rfl, Below.refl _ _⟩
  | some b off cap l hl hm hc =>
    have HCs := Lib.hid hc
    clear hc
    go_enter Try.func29, Try.ntmps29
    go_wp2
    go_loopw [3] (fun i W => ∃ k : Nat, k ≤ l.length ∧ i = .int .i64 k ∧ (∀ j, j < k → okN (l.getD j 0) = true) ∧ Below w.heap.size w W) (fun i _ => l.length - (intOf i).toNat)
    case atStart => exact ⟨0, Nat.zero_le _, rfl, fun j hj => by omega, Below.refl _ _⟩
    case round =>
      obtain ⟨k, hk, rfl, hp, hB⟩ := hrel
      have HP := Lib.hid hp
      clear hp
      by_cases hlt : k < l.length
      · have c1 := (hB.cell (p := ⟨b, off + k, none⟩) (cell_lt (HCs.out k hlt))).trans (HCs.out k hlt)
        generalize hx : l.getD k 0 = x at c1
        have HX := Lib.hid hx
        clear hx
        by_cases h0 : x < 0
        · go_wp2
          first | go_region | skip
          go_wp2
          go_ret
          have e : rightT l = false := by unfold rightT; rw [all_false_at (k := k) hlt (by rw [HX.out]; unfold okN; rw [decide_eq_false (by omega)]; rfl), Bool.and_false]
          rw [e]
          exact ⟨rfl, by first | exact hB | exact hB.drew⟩
        · by_cases h2 : 2 < x
          · have hd1 : decide (x < 0) = false := decide_eq_false h0
            go_wp2
            first | go_region | skip
            go_wp2
            go_ret
            have e : rightT l = false := by unfold rightT; rw [all_false_at (k := k) hlt (by rw [HX.out]; unfold okN; rw [decide_eq_false (show ¬ x ≤ 2 by omega), Bool.and_false]), Bool.and_false]
            rw [e]
            exact ⟨rfl, by first | exact hB | exact hB.drew⟩
          · have hd1 : decide (x < 0) = false := decide_eq_false h0
            have hd2 : decide (2 < x) = false := decide_eq_false h2
            go_wp2
            first | go_region | skip
            go_wp2
            go_round
            case rel => exact ⟨k + 1, by omega, by go_num, fun j hj => by by_cases hjk : j = k; (subst hjk; rw [HX.out]; unfold okN; rw [decide_eq_true (show 0 ≤ x by omega), decide_eq_true (show x ≤ 2 by omega)]; rfl); exact HP.out j (by omega), by first | exact hB | exact hB.drew⟩
            case measure => simp [intOf]; omega
      · obtain rfl : k = l.length := by omega
        go_wp2
        go_ret
        have e : rightT l = decide (l.length = 32) := by unfold rightT; rw [all_true_of (fun j hj => HP.out j hj), Bool.and_true]
        rw [e]
        refine ⟨?_, hB⟩
        by_cases h32 : l.length = 32
        · simp [h32]
        · have : ((l.length : Int) == 32) = false := beq_eq_false_iff_ne.2 (by omega)
          simp [h32, this]

/-- Is a line of a list kept, as the document says? -/
def keptI (l : List Int) (x : Int) : Bool := decide (x ∈ linesI l)
theorem keptI_wrong {l : List Int} (h : rightT l = false) (x : Int) : keptI l x = false := by
  unfold keptI linesI
  rw [h]
  rfl
theorem keptI_right {l : List Int} (h : rightT l = true) (k : Nat) (hk : k < 32) : keptI l (k : Int) = keptT l k := by
  unfold keptI linesI
  rw [h, Bool.eq_iff_iff, decide_eq_true_iff]
  show (k : Int) ∈ (linesT l).map (fun n : Nat => (n : Int)) ↔ _
  rw [List.mem_map]
  constructor
  · rintro ⟨n, hn, e⟩
    obtain rfl : n = k := by omega
    exact (List.mem_filter.1 hn).2
  · intro h2
    exact ⟨k, List.mem_filter.2 ⟨List.mem_range.2 hk, h2⟩, rfl⟩
theorem keptI_out {l : List Int} (h : rightT l = true) (x : Int) (hx : x < 0 ∨ 32 ≤ x) : keptI l x = false := by
  unfold keptI linesI
  rw [h]
  refine decide_eq_false fun hm => ?_
  obtain ⟨n, hn, e⟩ := List.mem_map.1 (show x ∈ (linesT l).map (fun n : Nat => (n : Int)) from hm)
  have := List.mem_range.1 (List.mem_filter.1 hn).1
  omega

set_option maxHeartbeats 400000 in
theorem refKept_any {w : World} {v : Value} {l : List Int} (hv : IntsV w v l) (x : Int) :
    Calls Try.prog 31 #[v, .int .i64 x] w fun r w' => r = .returned (.bool (keptI l x)) ∧ Below w.heap.size w w' := by
  have R := refRight_any hv
  cases hr : rightT l with
  | false =>
    rw [keptI_wrong hr]
    rw [hr] at R
    obtain ⟨p, cap, rfl⟩ := hv.slice
    clear hv hr
    go_enter Try.func31, Try.ntmps31
    go_wp2_with fail
    refine R.mono ?_
    rintro r w1 ⟨rfl, hb⟩
    clear R
    go_wp2
    go_ret
    exact ⟨rfl, hb⟩
  | true =>
    rw [hr] at R
    have h32 : l.length = 32 := by unfold rightT at hr; simp at hr; exact hr.1
    cases hv with
    | empty a cap => simp at h32
    | some b off cap l hl hm hc =>
      rw [h32] at hc R ⊢
      by_cases h0 : x < 0
      · rw [keptI_out hr x (.inl h0)]
        have hd : decide (0 ≤ x) = false := decide_eq_false (by omega)
        clear hc hr
        go_enter Try.func31, Try.ntmps31
        go_wp2_with fail
        refine R.mono ?_
        rintro r w1 ⟨rfl, hb⟩
        clear R
        go_wp2
        go_ret
        exact ⟨by first | (simp; done) | (simp; omega), hb⟩
      · by_cases h1 : 32 ≤ x
        · rw [keptI_out hr x (.inr h1)]
          have hd : decide (0 ≤ x) = true := decide_eq_true (by omega)
          have hd2 : decide (x < 32) = false := decide_eq_false (by omega)
          clear hc hr
          go_enter Try.func31, Try.ntmps31
          go_wp2_with fail
          refine R.mono ?_
          rintro r w1 ⟨rfl, hb⟩
          clear R
          go_wp2
          go_ret
          exact ⟨by first | (simp; done) | (simp; omega), hb⟩
        · obtain ⟨k, rfl⟩ : ∃ k : Nat, x = k := ⟨x.toNat, by omega⟩
          rw [keptI_right hr k (by omega)]
          have c0 := hc k (by omega)
          have c1 := hc (k - 1) (by omega)
          clear hc hr hl hm
          unfold keptT
          generalize l.getD k 0 = y at *
          generalize l.getD (k - 1) 0 = z at *
          have hB0 := cell_lt c0
          by_cases hy : y = 0
          · subst hy
            cases k with
            | zero =>
              rw [Nat.add_zero] at c0
              clear c1
              go_enter Try.func31, Try.ntmps31
              go_wp2_with fail
              refine R.mono ?_
              rintro r w1 ⟨rfl, hb⟩
              have c2 := (hb.cell (p := ⟨b, off, none⟩) hB0).trans c0
              clear R c0
              go_wp2
              go_ret
              exact ⟨rfl, hb⟩
            | succ j =>
              have e : j + 1 - 1 = j := rfl
              rw [e] at c1
              clear e
              go_enter Try.func31, Try.ntmps31
              go_wp2_with fail
              refine R.mono ?_
              rintro r w1 ⟨rfl, hb⟩
              have c2 := (hb.cell (p := ⟨b, off + (j + 1), none⟩) hB0).trans c0
              have c3 := (hb.cell (p := ⟨b, off + j, none⟩) hB0).trans c1
              clear R c0 c1
              go_wp2
              go_ret
              exact ⟨by simp, hb⟩
          · have hy' : (y != 0) = true := by simpa using hy
            go_enter Try.func31, Try.ntmps31
            go_wp2_with fail
            refine R.mono ?_
            rintro r w1 ⟨rfl, hb⟩
            have c2 := (hb.cell (p := ⟨b, off + k, none⟩) hB0).trans c0
            clear R c0 c1
            go_wp2
            go_ret
            exact ⟨by rw [hy']; rfl, hb⟩

def linesK (l : List Int) (k : Nat) : List Int := ((List.range k).filter fun n : Nat => keptI l (n : Int)).map fun n : Nat => (n : Int)
theorem linesK_all (l : List Int) : linesK l 32 = linesI l := by
  unfold linesK
  cases hr : rightT l with
  | false =>
    have e : (List.range 32).filter (fun n : Nat => keptI l (n : Int)) = [] := List.filter_eq_nil_iff.2 fun n _ => by rw [keptI_wrong hr]; decide
    rw [e]
    unfold linesI
    rw [hr]
    rfl
  | true =>
    have e : (List.range 32).filter (fun n : Nat => keptI l (n : Int)) = linesT l := List.filter_congr fun n hn => keptI_right hr n (List.mem_range.1 hn)
    rw [e]
    unfold linesI
    rw [hr]
    rfl
theorem linesK_yes {l : List Int} {k : Nat} (h : keptI l (k : Int) = true) : linesK l (k + 1) = linesK l k ++ [(k : Int)] := by
  unfold linesK
  rw [List.range_succ, List.filter_append, List.map_append]
  simp [h]
theorem linesK_no {l : List Int} {k : Nat} (h : keptI l (k : Int) = false) : linesK l (k + 1) = linesK l k := by
  unfold linesK
  rw [List.range_succ, List.filter_append, List.map_append]
  simp [h]
theorem linesK_le (l : List Int) (k : Nat) : (linesK l k).length ≤ k := by
  unfold linesK
  rw [List.length_map]
  exact Nat.le_trans (List.length_filter_le _ _) (by simp)

theorem own_ge {W : World} {base : Nat} {e : TypeId} {size : Nat} {v : Value} {k : Nat} {xs : List Value} (h : W.ownsRow base e size v k xs) : ∀ j, v.ownBlock = some j → base ≤ j := fun _ hj => ownsRow_block h hj.symm

set_option maxHeartbeats 1000000 in
set_option maxRecDepth 20000 in
theorem refLines_any {w : World} {v : Value} {l : List Int} (hv : IntsV w v l) :
    Calls Try.prog 41 #[v] w fun r w' => (∃ v', r = .returned v' ∧ IntsV w' v' (linesI l)) ∧ Below w.heap.size w w' := by
  obtain ⟨i0, hi, hz0, hz1, hz2⟩ := info_parts intInfo
  have HV := Lib.hid hv
  obtain ⟨p, cap, rfl⟩ := hv.slice
  clear hv
  go_enter Try.func41, Try.ntmps41
  go_wp2
  go_loopw [3, 4] (fun vo vi W => ∃ k : Nat, k ≤ 32 ∧ vi = .int .i64 k ∧ W.ownsRow w.heap.size 3 1 vo (linesK l k).length ((linesK l k).map fun x : Int => Value.int .i64 x) ∧ Below w.heap.size w W) (fun _ i _ => 32 - (intOf i).toNat)
  case atStart => exact ⟨0, Nat.zero_le _, rfl, World.ownsRow_nil _ _ _ _, Below.refl _ _⟩
  case round =>
    obtain ⟨k, hk, rfl, hrow, hB⟩ := hrel
    by_cases hlt : k < 32
    · have K := refKept_any (HV.out.below hB) (k : Int)
      cases hkp : keptI l (k : Int) with
      | false =>
        rw [hkp] at K
        have e := linesK_no hkp
        rw [← e] at hrow
        clear e hkp
        go_wp2_with fail
        refine K.mono ?_
        rintro r w1 ⟨rfl, hb1⟩
        have hrow' := ownsRow_below hrow hb1
        have hB' := hB.trans (hb1.mono hB.size)
        clear K hB hb1 hrow
        go_wp2
        go_round
        case rel => exact ⟨k + 1, by omega, by go_num, hrow', hB'⟩
        case measure => simp [intOf]; omega
      | true =>
        rw [hkp] at K
        have e := linesK_yes hkp
        have hle := linesK_le l k
        clear hkp
        go_wp2_with fail
        refine K.mono ?_
        rintro r w1 ⟨rfl, hb1⟩
        have hrow' := ownsRow_below hrow hb1
        have hB' := hB.trans (hb1.mono hB.size)
        clear K hB hb1 hrow
        go_wp2_with (at_builtin; refine wpList_append_own _ rfl _ _ 22 rfl w.heap.size 3 i0 (.int .i64 0) 1 8 Try.underlying22 hi hz0 hz1 hz2 rfl (by decide) _ _ _ rfl (hrow'.alloc _) ⟨w1.heap.size, 0, none⟩ 1 1 [.int .i64 (k : Int)] rfl rfl (cell_one_new _ _ _) (by simp [Value.oneCell']) (by unfold maxLen; omega) (by omega) (by have := hB'.size; simp; omega) ?_; intro v' w2 hown' hgrow _; obtain ⟨g', cap', rfl⟩ := ownsRow_succ hown')
        have hB2 : Below w.heap.size w w2 := (hB'.alloc hB'.size _).grown hgrow (by have := hB'.size; simp; omega) (own_ge hrow')
        have hown2 : w2.ownsRow w.heap.size 3 1 (.slice (some ⟨g', 0, none⟩) ((linesK l k).length + 1) cap') (linesK l (k + 1)).length ((linesK l (k + 1)).map fun x : Int => Value.int .i64 x) := by
          rw [e, List.length_append, List.map_append]
          exact hown'
        clear hgrow hown' hrow' hB' e
        go_wp2
        go_round
        case rel => exact ⟨k + 1, by omega, by go_num, hown2, hB2⟩
        case measure => simp [intOf]; omega
    · obtain rfl : k = 32 := by omega
      rw [linesK_all] at hrow
      go_wp2
      go_ret
      exact ⟨⟨_, rfl, IntsV.of_row hrow⟩, hB⟩

theorem refCount_any {w : World} {v : Value} {l : List Int} (hv : IntsV w v l) :
    Calls Try.prog 34 #[v] w fun r w' => r = .returned (.int .i64 (linesI l).length) ∧ Below w.heap.size w w' := by
  have L := refLines_any hv
  obtain ⟨a, cap, rfl⟩ := hv.slice
  clear hv
  go_enter Try.func34, Try.ntmps34
  go_wp2_with fail
  refine L.mono ?_
  rintro r w1 ⟨⟨v1, rfl, hv1⟩, hb⟩
  obtain ⟨a, cap, rfl⟩ := hv1.slice
  clear hv1 L
  go_wp2
  go_ret
  exact ⟨rfl, hb⟩
end Go.Proofs.Ytmgllljilnkkcaa

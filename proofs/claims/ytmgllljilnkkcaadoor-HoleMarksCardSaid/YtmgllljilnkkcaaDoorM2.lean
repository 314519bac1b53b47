/- Layer marks: the lines that are kept. -/
import Derived.Test.YtmgllljilnkkcaaDoorM1
import Derived.Test.YtmgllljilnkkcaaDoorGv
import Derived.Deep.DrawnRows
import Derived.Deep.RegionHeld3
import Derived.WalkSpells
import Derived.WalkLawsBesides
import Derived.BigQuiet
import Derived.Deep.QuietTactic
namespace Go.Proofs.YtmgllljilnkkcaaDoor
open Go Go.RowKit Go.Shelf
attribute [local go_sem ↓] Go.wp_at_zero Go.wp_at_succ
attribute [local go_sem] Oper.semAt_some

/-- Is a line of a table kept? -/
def keptT (l : List Int) (n : Nat) : Bool := (l.getD n 0 != 0) || (decide (0 < n) && (l.getD (n - 1) 0 == 2))

theorem kept_any (p : Addr) (w : World) : Calls Tryd.prog 41 #[.pointer (some p)] w fun r w' => r = .returned (.func (.func 42) #[] #[.pointer (some ⟨w.heap.size, 0, none⟩)]) ∧ w.alloc (.cells #[.pointer (some p)] 102) = w' := by
  go_enter Tryd.func41, Tryd.ntmps41
  go_wp2
  go_ret
  exact ⟨rfl, rfl⟩

theorem isKept_any {w : World} {B b off cap : Nat} {l : List Int} (h32 : l.length = 32) (hB : w.cell? ⟨B, 0, none⟩ = some (.slice (some ⟨b, off, none⟩) 32 cap)) (hc : ∀ i, i < l.length → w.cell? ⟨b, off + i, none⟩ = some (.int .i64 (l.getD i 0))) (n : Nat) (hn : n < 32) :
    Calls Tryd.prog 43 #[.pointer (some ⟨B, 0, none⟩), .int .i64 n] w fun r w' => r = .returned (.bool (keptT l n)) ∧ w = w' := by
  have c0 := hc n (by omega)
  have c1 := hc (n - 1) (by omega)
  clear hc h32
  unfold keptT
  generalize l.getD n 0 = x at *
  generalize l.getD (n - 1) 0 = y at *
  by_cases hx : x = 0
  · subst hx
    cases n with
    | zero =>
      rw [Nat.add_zero] at c0
      clear c1
      go_enter Tryd.func43, Tryd.ntmps43
      go_wp2
      go_ret
      exact ⟨rfl, rfl⟩
    | succ m =>
      have e : m + 1 - 1 = m := rfl
      rw [e] at c1
      clear e
      go_enter Tryd.func43, Tryd.ntmps43
      go_wp2
      go_ret
      exact ⟨by simp, rfl⟩
  · have hx' : (x != 0) = true := by simpa using hx
    go_enter Tryd.func43, Tryd.ntmps43
    go_wp2
    go_ret
    exact ⟨by rw [hx']; rfl, rfl⟩

theorem range_split {p : Nat → Bool} {k m : Nat} (hk : k < m) (hp : p k = true) : ∃ post, (List.range m).filter p = (List.range k).filter p ++ k :: post := by
  obtain ⟨d, rfl⟩ : ∃ d, m = k + 1 + d := ⟨m - (k + 1), by omega⟩
  refine ⟨((List.range d).map (k + 1 + ·)).filter p, ?_⟩
  rw [List.range_add, List.filter_append, List.range_succ, List.filter_append]
  simp [hp]
theorem filter_succ_yes {p : Nat → Bool} {k : Nat} (hp : p k = true) : (List.range (k + 1)).filter p = (List.range k).filter p ++ [k] := by
  rw [List.range_succ, List.filter_append]; simp [hp]
theorem filter_succ_no {p : Nat → Bool} {k : Nat} (hp : p k = false) : (List.range (k + 1)).filter p = (List.range k).filter p := by
  rw [List.range_succ, List.filter_append]; simp [hp]

theorem kept1_gives {w : World} {S : Nat → Prop} {C B b off cap : Nat} {l : List Int} (h32 : l.length = 32) (hP : w.cell? ⟨C, 0, none⟩ = some (.pointer (some ⟨B, 0, none⟩))) (hB : w.cell? ⟨B, 0, none⟩ = some (.slice (some ⟨b, off, none⟩) 32 cap))
    (hc : ∀ i, i < l.length → w.cell? ⟨b, off + i, none⟩ = some (.int .i64 (l.getD i 0))) (hSC : ¬ S C) (hSB : ¬ S B) (hSb : ¬ S b) :
    Gives Tryd.prog 42 #[.pointer (some ⟨C, 0, none⟩)] (fun n : Nat => .int .i64 (n : Int)) ((List.range 32).filter (keptT l)) S w := by
  intro lp J E W hS hJ hE hY h0
  have HY := Lib.hid hY
  clear hY
  refine callsIn_of_wp Tryd.func42 rfl trivial ?_ rfl
  simp only [Tryd.ntmps42, List.size_toArray, List.length_cons, List.length_nil, Nat.reduceAdd, Nat.reduceSub, Array.replicate_succ, Array.replicate_zero, List.push_toArray, List.append_toArray, List.nil_append, List.cons_append]
  gi_wp2
  refine wpIn_scope_straight ?_
  gi_wp2
  refine wpIn_label ?_
  gi_wp2
  gi_loopw [4] (fun i W' => ∃ k : Nat, k ≤ 32 ∧ i = .int .i64 k ∧ J ((List.range k).filter (keptT l)) W' ∧ Sam S w W') (fun i _ => 32 - (intOf i).toNat)
  case atStart => exact ⟨0, Nat.zero_le _, rfl, h0, hS⟩
  case round =>
    obtain ⟨k, hk, rfl, hj, hs⟩ := hrel
    by_cases hlt : k < 32
    · have I := isKept_any (w := wr) h32 (hs.cell hB hSB) (fun i hi => hs.cell (hc i hi) hSb) k hlt
      have cP := hs.cell hP hSC
      cases hkp : keptT l k with
      | false =>
        rw [hkp] at I
        have hj' : J ((List.range (k + 1)).filter (keptT l)) wr := by rw [filter_succ_no hkp]; exact hj
        have HJ := Lib.hid hj'
        clear hj hj' hkp hc hB hP
        gi_wp2
        refine ⟨trivial, (callsIn_wide.2 I).mono ?_⟩
        rintro r w' ⟨rfl, rfl⟩
        gi_wp2
        refine ⟨fun f hf => (by cases hf), ?_⟩
        gi_wp2
        go_round
        case rel => exact ⟨k + 1, by omega, by go_num, HJ.out, hs⟩
        case measure => simp [intOf]; omega
      | true =>
        rw [hkp] at I
        obtain ⟨post, hpost⟩ := range_split hlt hkp
        obtain ⟨fn1, tm1, as1, bo1, hy1, hR1⟩ := HY.out _ k post _ hpost hj hs
        have hf := filter_succ_yes hkp
        rw [← hf] at hR1
        have HR := Lib.hid hR1
        clear hj hkp hc hB hP hpost hf hR1
        gi_wp2
        refine ⟨trivial, (callsIn_wide.2 I).mono ?_⟩
        rintro r w' ⟨rfl, rfl⟩
        gi_wp2
        refine HR.out.mono ?_
        clear HR hy1 cP I
        rintro e W2 (⟨rfl, hj, hs2⟩ | ⟨rfl, hE2⟩)
        · have HJ := Lib.hid hj
          clear hj
          gi_wp2
          go_round
          case rel => exact ⟨k + 1, by omega, by go_num, HJ.out, hs2⟩
          case measure => simp [intOf]; omega
        · gi_wp2
          rw [Exit.noGoto_normal]
          go_end0
          exact ⟨⟨_, rfl⟩, .inr hE2⟩
    · obtain rfl : k = 32 := by omega
      have HJ := Lib.hid hj
      clear hj
      gi_wp2
      rw [Exit.noGoto_normal]
      go_end0
      exact ⟨⟨_, rfl⟩, .inl HJ.out⟩

def linesT (l : List Int) : List Nat := (List.range 32).filter (keptT l)

theorem linesT_le (l : List Int) : (linesT l).length ≤ 32 := Nat.le_trans (List.length_filter_le _ _) (by simp)
theorem intInfo : (Tryd.prog.info? 3).map (fun i => (i.zero, i.size, i.bytes)) = some (some (.int .i64 0), 1, 8) := by kernel_rfl

set_option maxHeartbeats 1000000 in
theorem lines_right {w : World} {b off cap : Nat} {l : List Int} (h32 : l.length = 32) (hr : rightT l = true) (hcap : l.length ≤ cap) (hm : cap ≤ 9223372036854775807) (hc : ∀ i, i < l.length → w.cell? ⟨b, off + i, none⟩ = some (.int .i64 (l.getD i 0))) :
    Calls Tryd.prog 39 #[.slice (some ⟨b, off, none⟩) 32 cap] w fun r w' => (∃ v, r = .returned v ∧ w'.ownsRow w.heap.size 3 1 v (linesT l).length ((linesT l).map fun n : Nat => .int .i64 (n : Int))) ∧ Below w.heap.size w w' := by
  obtain ⟨i0, hi, hz0, hz1, hz2⟩ := info_parts intInfo
  have hR := right_any7 (.some b off cap l hcap hm hc)
  rw [hr, h32] at hR
  clear hr
  refine calls_of_wp_marks Tryd.func39 rfl ?_
  simp only [Tryd.ntmps39, List.size_toArray, List.length_cons, List.length_nil, Nat.reduceAdd, Nat.reduceSub, Array.replicate_succ, Array.replicate_zero, List.push_toArray, List.append_toArray, List.nil_append, List.cons_append]
  go_wp2_with (first | (go_at_call 15; refine hR.mono ?_; rintro r w' ⟨rfl, rfl⟩) | (go_at_call 41; refine (kept_any _ _).mono ?_; rintro r w' ⟨rfl, rfl⟩))
  obtain ⟨W0, hW0, e0, e1, e2, e3', e4'⟩ := allocs3 w (.cells #[.slice none 0 0] 22) (.cells #[.slice (some ⟨b, off, none⟩) 32 cap] 51) (.cells #[.pointer (some ⟨w.heap.size + 1, 0, none⟩)] 102)
  have e3 := cells_cell (i := 0) e3' (v := .slice (some ⟨b, off, none⟩) 32 cap) rfl
  have e4 := cells_cell (i := 0) e4' (v := .pointer (some ⟨w.heap.size + 1, 0, none⟩)) rfl
  rw [hW0]
  clear e3' e4' hW0
  have hb : b < w.heap.size := cell_lt (hc 0 (by omega))
  have hG := kept1_gives (w := W0) (S := fun k => k = w.heap.size) h32 e4 e3 (fun i hi => (e0.cell (p := ⟨b, off + i, none⟩) hb).trans (hc i hi)) (by omega) (by omega) (by omega)
  clear hR hc e3 e4 hb hcap h32
  refine rf_wp (gf := 42) (lb := #[.pointer (some ⟨w.heap.size + 1 + 1, 0, none⟩)]) rfl (enters_of Tryd.func42 (by kernel_rfl) rfl) ?_
  intro D L W1 hD hRf hB1 hsz hK hL
  have hS1 : Sam (fun k => k = w.heap.size) W0 W1 := (Sam.refl _ W0).below hB1
  have h0 : Col w w.heap.size D (L .ready none) 22 3 1 0 [] W1 :=
    ⟨e0.trans (hB1.mono e0.size), by omega, by omega, ⟨_, (hB1.block _ (by omega)).trans e2, World.ownsRow_nil _ _ _ _⟩, hK, hL⟩
  refine (hG (D + 1) (fun pre W => Col w w.heap.size D (L .ready none) 22 3 1 pre.length (pre.map fun n : Nat => .int .i64 (n : Int)) W) (fun _ => False) W1 hS1 (fun _ _ _ h hb => h.next hb) (fun _ _ h _ => h.elim) ?_ h0).mono ?_
  · intro pre x post W hxs hC hS
    refine (?_ : YieldAt Fence.wide 8 _ _ _ W fun e W' => e = .returned (.bool true) ∧ Col w w.heap.size D (L .ready none) 22 3 1 (pre ++ [x]).length ((pre ++ [x]).map fun n : Nat => .int .i64 (n : Int)) W' ∧ Sam (fun k => k = w.heap.size) W0 W').mono fun e W' h => .inl h
    have hlen : pre.length < 32 := by
      have := linesT_le l
      unfold linesT at this
      rw [hxs] at this
      simp at this
      omega
    clear hxs hG h0 hS1
    refine hRf.round _ _ _ rfl hC.loop ?_
    gi_wp2
    refine ⟨hC.loop, ?_⟩
    have hC2 := hC.put (hRf.cells _ _) (L .busy none)
    have hS2 := hS.put (l := D + 1) (L .busy none) (by omega)
    clear hC hS
    generalize W.putObj (D + 1) (L .busy none) = W2 at *
    obtain ⟨v, hv, hrow⟩ := hC2.box
    have c1 := hv.cell
    gi_wp2_with (gi_at_builtin; refine wpListIn_append_own _ rfl _ _ 22 rfl D 3 i0 (.int .i64 0) 1 8 Tryd.underlying22 hi hz0 hz1 hz2 rfl (by decide) _ _ _ rfl (hrow.alloc _) ⟨W2.heap.size, 0, none⟩ 1 1 [.int .i64 (x : Int)] rfl rfl (cell_one_new _ _ _) (by simp [Value.oneCell']) (by unfold maxLen; omega) (by omega) (by have := hC2.base; have := block_lt hC2.marks; simp; omega) ?_; intro v' w1 hown' hgrow _; obtain ⟨g', cap', rfl⟩ := ownsRow_succ hown'; obtain ⟨hv1, hC3, hS3⟩ := hC2.appended hv hrow (by decide) (hRf.cells _ _) hS2 (by omega) hown' hgrow; have hc1 := hv1.cell; have hf1 := hv1.frozen)
    have hC4 := hC3.put (hRf.cells _ _) (L .ready none)
    have hS4 := hS3.put (l := D + 1) (L .ready none) (by omega)
    refine ⟨hC3.loop, rfl, ?_, hS4⟩
    rw [List.length_append, List.map_append]
    exact hC4
  · rintro e W ⟨hv, (hC | hF)⟩
    · refine ⟨hv, hC.marks, .inl ⟨hC.loop, ?_⟩⟩
      have hC2 := hC.put (hRf.cells _ _) (L .exhausted none)
      clear hC h0 hG e2 hS1
      generalize W.putObj (D + 1) (L .exhausted none) = W2 at *
      obtain ⟨v, hv, hrow⟩ := hC2.box
      have c1 := hv.cell
      go_wp2
      refine bodyPostR_ret (D := D) hC2.marks (results_tmp rfl _ _ _) ⟨⟨_, rfl, ?_⟩, ?_⟩
      · exact ownsRow_putObj (ownsRow_down hrow (by omega)) _ hC2.marks rfl
      · exact below_putObj hC2.below _ hC2.marks (by omega)
    · exact hF.elim
end Go.Proofs.YtmgllljilnkkcaaDoor

/- Layer bits: the places from one on that are so. -/
import Derived.Test.YtlncilcoohmlkaaDoorU1
import Derived.RangeFuncCalls
import Derived.Shelf.RegionOpen
import Derived.StillTailTactics
import Derived.Deep.RegionWith
import Derived.Deep.RegionHeld3
namespace Go.Proofs.YtlncilcoohmlkaaDoor
open Go Go.RowKit Go.Shelf
attribute [local go_sem ↓] Go.wp_at_zero Go.wp_at_succ
attribute [local go_sem] Oper.semAt_some

theorem places_any (n x : Int) (v : Value) (on : Bool) (w : World) : Calls Tryd.prog 39 #[.agg #[.int .i64 n, v], .int .i64 x, .bool on] w fun r w' =>
    r = .returned (.func (.func 47) #[] #[.pointer (some ⟨w.heap.size, 0, none⟩), .pointer (some ⟨w.heap.size + 1, 0, none⟩), .pointer (some ⟨w.heap.size + 1 + 1, 0, none⟩)]) ∧
    ((w.alloc (.cells #[.int .i64 n, v] 24)).alloc (.cells #[.int .i64 x] 3)).alloc (.cells #[.bool on] 4) = w' := by
  go_enter Tryd.func39, Tryd.ntmps39
  go_wp2
  go_ret
  exact ⟨rfl, rfl⟩

/-- Is a place from x on, and so? -/
def soB (ws : List Nat) (x : Int) (on : Bool) (i : Nat) : Bool := decide (x ≤ (i : Int)) && (onB ws i == on)
def placesL (ws : List Nat) (N : Nat) (x : Int) (on : Bool) : List Nat := (List.range N).filter (soB ws x on)

theorem range_split {p : Nat → Bool} {k m : Nat} (hk : k < m) (hp : p k = true) : ∃ post, (List.range m).filter p = (List.range k).filter p ++ k :: post := by
  obtain ⟨d, rfl⟩ : ∃ d, m = k + 1 + d := ⟨m - (k + 1), by omega⟩
  refine ⟨((List.range d).map (k + 1 + ·)).filter p, ?_⟩
  rw [List.range_add, List.filter_append, List.range_succ, List.filter_append]
  simp [hp]
theorem filter_succ_yes {p : Nat → Bool} {k : Nat} (hp : p k = true) : (List.range (k + 1)).filter p = (List.range k).filter p ++ [k] := by
  rw [List.range_succ, List.filter_append]; simp [hp]
theorem filter_succ_no {p : Nat → Bool} {k : Nat} (hp : p k = false) : (List.range (k + 1)).filter p = (List.range k).filter p := by
  rw [List.range_succ, List.filter_append]; simp [hp]

theorem WordsV.sam {S : Nat → Prop} {w W : World} {a : Option Addr} {cap : Nat} {l : List Nat} (h : WordsV w (.slice a l.length cap) l) (hs : Sam S w W) (hS : 0 < l.length → ∀ b, a = Option.some b → ¬ S b.block) : WordsV W (.slice a l.length cap) l := by
  generalize hn : l.length = n at h ⊢
  generalize hv : Value.slice a n cap = v at h ⊢
  cases h with
  | some b off cap' l hl hm hw hc => cases hv; exact .some b off cap l hl hm hw fun i hi => hs.cell (hc i hi) (hS (by omega) ⟨b, off, none⟩ rfl)
  | empty a' cap' => cases hv; exact .empty _ _

set_option maxHeartbeats 2000000 in
set_option maxRecDepth 20000 in
theorem places1_gives {w : World} {S : Nat → Prop} {C D G N cap : Nat} {a : Option Addr} {x : Int} {on : Bool} {ws : List Nat} (hC : w.heap[C]? = some (.cells #[.int .i64 (N : Int), .slice a ws.length cap] 24 (0, 0)))
    (hD : w.cell? ⟨D, 0, none⟩ = some (.int .i64 x)) (hG : w.cell? ⟨G, 0, none⟩ = some (.bool on)) (hv : WordsV w (.slice a ws.length cap) ws) (hN : N ≤ 32 * ws.length) (hN2 : N ≤ 20000)
    (hS0 : ∀ k, S k → k ≠ C ∧ k ≠ D ∧ k ≠ G ∧ (0 < ws.length → ∀ b, a = some b → k ≠ b.block)) :
    Gives Tryd.prog 47 #[.pointer (some ⟨C, 0, none⟩), .pointer (some ⟨D, 0, none⟩), .pointer (some ⟨G, 0, none⟩)] (fun n : Nat => .int .i64 (n : Int)) (placesL ws N x on) S w := by
  intro lp J E W hS hJ hE hY h0
  have hW : ∀ W', Sam S w W' → WordsV W' (.slice a ws.length cap) ws := fun W' hs => hv.sam hs fun h0 b hb hSb => (hS0 _ hSb).2.2.2 h0 b hb rfl
  have HY := Lib.hid hY
  have HJ := Lib.hid hJ
  have HWD := Lib.hid hW
  clear hY hJ hW
  refine callsIn_of_wp Tryd.func47 rfl trivial ?_ rfl
  simp only [Tryd.ntmps47, List.size_toArray, List.length_cons, List.length_nil, Nat.reduceAdd, Nat.reduceSub, Array.replicate_succ, Array.replicate_zero, List.push_toArray, List.append_toArray, List.nil_append, List.cons_append]
  have hmo : Tryd.prog.follows .mixedOrders = true := by kernel_rfl
  have hSC : ¬ S C := fun h => (hS0 C h).1 rfl
  have hSD : ¬ S D := fun h => (hS0 D h).2.1 rfl
  have hSG : ¬ S G := fun h => (hS0 G h).2.2.1 rfl
  have c1 := hS.cell (cells_cell (i := 0) hC (v := .int .i64 (N : Int)) rfl) hSC
  gi_wp2
  refine wpIn_scope_straight ?_
  gi_wp2
  refine wpIn_label ?_
  gi_wp2
  clear c1
  gi_loopw [8] (fun i W' => ∃ k : Nat, k ≤ N ∧ i = .int .i64 k ∧ J ((List.range k).filter (soB ws x on)) W' ∧ Sam S w W') (fun i _ => N - (intOf i).toNat)
  case atStart => exact ⟨0, Nat.zero_le _, rfl, h0, hS⟩
  case round =>
    obtain ⟨k, hk, rfl, hj, hs⟩ := hrel
    by_cases hlt : k < N
    · have c1 := hs.cell (cells_cell (i := 0) hC (v := .int .i64 (N : Int)) rfl) hSC
      have c2 := hs.cell (cells_cell (i := 1) hC (v := .slice a ws.length cap) rfl) hSC
      have c3 := hs.cell hD hSD
      have c4 := hs.cell hG hSG
      have I := isOn_any (n := (N : Int)) (HWD.out wr hs) k (by omega)
      by_cases hx : (k : Int) < x
      · have g1 : decide ((k : Int) < x) = true := decide_eq_true hx
        have hp : soB ws x on k = false := by unfold soB; rw [decide_eq_false (show ¬ x ≤ (k : Int) by omega)]; rfl
        have hj' : J ((List.range (k + 1)).filter (soB ws x on)) wr := by rw [filter_succ_no hp]; exact hj
        have HJ1 := Lib.hid hj'
        clear hj hj' hp I hC hD hG hv
        gi_wp2
        refine wpIn_wide.2 ?_
        go_quiet (fail)
        clear c1 c2 c3 c4
        gi_wp2
        go_round
        case rel => exact ⟨k + 1, by omega, by go_num, HJ.out _ _ _ HJ1.out (below_drewN (Below.refl _ wr) _), hs.below (below_drewN (Below.refl _ wr) _)⟩
        case measure => simp [intOf]; omega
      · have g1 : decide ((k : Int) < x) = false := decide_eq_false (by omega)
        obtain ⟨q, hq⟩ : ∃ q, onB ws k = q := ⟨_, rfl⟩
        have hp : soB ws x on k = (q == on) := by unfold soB; rw [decide_eq_true (show x ≤ (k : Int) by omega), hq]; rfl
        have I' : ∀ W', Sam S w W' → Calls Tryd.prog 38 #[.agg #[.int .i64 (N : Int), .slice a ws.length cap], .int .i64 (k : Int)] W' fun r w' => r = .returned (.bool q) ∧ Below W'.heap.size W' w' := fun W' hs' => (isOn_any (n := (N : Int)) (HWD.out W' hs') k (by omega)).mono fun r w' ⟨h1, h2⟩ => ⟨by rw [h1, hq], by rw [h2]; exact (Below.refl _ _).alloc (Nat.le_refl _) _⟩
        have HI := Lib.hid I'
        clear I I' hq
        by_cases hqo : q = on
        · subst hqo
          have hp' : soB ws x q k = true := by rw [hp]; simp
          have gq : (!q == q) = false := by cases q <;> rfl
          have gq2 : (q != q) = false := by cases q <;> rfl
          obtain ⟨post, hpost⟩ := range_split hlt hp'
          have hf := filter_succ_yes hp'
          have HF := Lib.hid hf
          have HPO := Lib.hid hpost
          have HJ0 := Lib.hid hj
          clear hj hp hp' hC hD hG hv hf hpost
          gi_wp2
          refine wpIn_wide.2 ?_
          go_region_with (go_at_call 38; refine (HI.out _ (by first | exact hs | exact hs.below (Below.refl _ wr).drew)).mono ?_; rintro r w' ⟨rfl, hb1⟩; have e4 := (hb1.cell (p := ⟨G, 0, none⟩) (cell_lt c4)).trans c4)
          all_goals
            obtain ⟨w5, hw5⟩ : ∃ w5, w5 = w' ∨ w5 = w'.drew := ⟨w', .inl rfl⟩
            clear hw5
            have hJ2 := HJ.out _ _ _ HJ0.out (show Below wr.heap.size wr w' from by first | exact hb1 | exact (Below.refl _ wr).drew.trans hb1)
            have hs2 : Sam S w w' := hs.below (by first | exact hb1 | exact (Below.refl _ wr).drew.trans hb1)
            clear w5
            first
              | (obtain ⟨fn1, tm1, as1, bo1, hy1, hR1⟩ := HY.out _ k post _ HPO.out (HJ.out _ _ _ hJ2 (Below.refl _ w').drew) (hs2.below (Below.refl _ w').drew)
                 rw [← HF.out] at hR1
                 have HR := Lib.hid hR1
                 clear hJ2 c1 c2 c3 c4 e4 hb1 HI hs hs2 hR1
                 gi_wp2
                 refine HR.out.mono ?_
                 clear HR hy1)
              | (obtain ⟨fn1, tm1, as1, bo1, hy1, hR1⟩ := HY.out _ k post _ HPO.out hJ2 hs2
                 rw [← HF.out] at hR1
                 have HR := Lib.hid hR1
                 clear hJ2 c1 c2 c3 c4 e4 hb1 HI hs hs2 hR1
                 gi_wp2
                 refine HR.out.mono ?_
                 clear HR hy1)
            rintro e W2 (⟨rfl, hj, hs2⟩ | ⟨rfl, hE2⟩)
            · have HJ3 := Lib.hid hj
              clear hj
              gi_wp2
              go_round
              case rel => exact ⟨k + 1, by omega, by go_num, HJ3.out, hs2⟩
              case measure => simp [intOf]; omega
            · gi_wp2
              rw [Exit.noGoto_normal]
              go_end0
              exact ⟨⟨_, rfl⟩, .inr hE2⟩
        · have hp' : soB ws x on k = false := by rw [hp]; exact beq_eq_false_iff_ne.2 hqo
          have gq : (!q == on) = true := by cases q <;> cases on <;> simp_all
          have gq2 : (q != on) = true := by cases q <;> cases on <;> simp_all
          clear hqo
          have hj' : J ((List.range (k + 1)).filter (soB ws x on)) wr := by rw [filter_succ_no hp']; exact hj
          have HJ1 := Lib.hid hj'
          clear hj hj' hp hp' hC hD hG hv
          gi_wp2
          refine wpIn_wide.2 ?_
          go_region_with (go_at_call 38; refine (HI.out _ (by first | exact hs | exact hs.below (Below.refl _ wr).drew)).mono ?_; rintro r w' ⟨rfl, hb1⟩; have e4 := (hb1.cell (p := ⟨G, 0, none⟩) (cell_lt c4)).trans c4)
          all_goals
            have hJ2 := HJ.out _ _ _ HJ1.out (show Below wr.heap.size wr w' from by first | exact hb1 | exact (Below.refl _ wr).drew.trans hb1)
            have hs2 : Sam S w w' := hs.below (by first | exact hb1 | exact (Below.refl _ wr).drew.trans hb1)
            have HJ2 := Lib.hid hJ2
            clear hJ2 c1 c2 c3 c4 e4 hb1 HI hs
            gi_wp2
            go_round
            case rel => exact ⟨k + 1, by omega, by go_num, by first | exact HJ2.out | exact HJ.out _ _ _ HJ2.out (Below.refl _ w').drew, by first | exact hs2 | exact hs2.below (Below.refl _ w').drew⟩
            case measure => simp [intOf]; omega
    · obtain rfl : k = N := by omega
      have HJ1 := Lib.hid hj
      clear hj
      gi_wp2
      rw [Exit.noGoto_normal]
      go_end0
      exact ⟨⟨_, rfl⟩, .inl HJ1.out⟩

theorem WordsV.block_lt {w : World} {a : Option Addr} {cap : Nat} {l : List Nat} (h : WordsV w (.slice a l.length cap) l) (h0 : 0 < l.length) (b : Addr) (hb : a = Option.some b) : b.block < w.heap.size := by
  obtain ⟨b', off, e, c⟩ := h.at_ 0 h0
  rw [hb] at e
  cases e
  exact cell_lt c
theorem placesL_len (ws : List Nat) (N : Nat) (x : Int) (on : Bool) : (placesL ws N x on).length ≤ N := Nat.le_trans (List.length_filter_le _ _) (by simp)
end Go.Proofs.YtlncilcoohmlkaaDoor

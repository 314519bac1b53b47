/- HoleMarks holds of every list, every extent and every line: the law's own text walked, and the card. -/
import Derived.Test.YtmgllljilnkkcaaDoorM10
import Derived.Test.YtmgllljilnkkcaaDoorS8
import Derived.Test.YtmgllljilnkkcaaDoorS8b
import Derived.Test.YtmgllljilnkkcaaDoorOp
import Derived.Test.YtmgllljilnkkcaaDoorG7
import Derived.Test.YtmgllljilnkkcaaDoorCards
import Derived.Test.YtmgllljilnkkcaaDoorTie
namespace Go.Proofs.YtmgllljilnkkcaaDoor
open Go.RowKit
attribute [local go_sem ↓] Go.wp_at_zero Go.wp_at_succ

theorem markE_zero (l : List Int) (a n : Int) : markE l a n = 0 ↔ rightT l = true ∧ extB a n = true := by
  unfold markE
  cases rightT l <;> cases extB a n <;> simp
theorem markL_nil {l : List Int} {a n : Int} (h : markE l a n ≠ 0) : markL l a n = [] := by
  unfold markL
  rw [Ne, markE_zero] at h
  cases hr : rightT l <;> cases hx : extB a n <;> simp_all
theorem markL_yes {l : List Int} {a n : Int} (h : markE l a n = 0) : markL l a n = markT l a n := by
  obtain ⟨h1, h2⟩ := (markE_zero l a n).1 h
  unfold markL
  rw [h1, h2]; rfl
theorem linesI_len {l : List Int} (h : rightT l = true) : (linesI l).length = (List.range 32).countP (keptT l) := by
  unfold linesI
  rw [h]
  show (List.map _ (linesT l)).length = _
  rw [List.length_map]
  unfold linesT
  rw [List.countP_eq_length_filter]
theorem keptT_mem {l : List Int} (h : rightT l = true) (j : Nat) (hj : j < 32) : keptT l j = true ↔ ((j : Int) ∈ linesI l) := by
  rw [linesI_mem_iff h]
  constructor
  · intro hk; exact ⟨j, hj, rfl, hk⟩
  · rintro ⟨n, hn, e, hk⟩
    obtain rfl : j = n := by omega
    exact hk
/-- What is marked keeps at least as many lines, and at most seventeen more. -/
theorem mark_count {l : List Int} (h : rightT l = true) (a n : Int) (hx : extB a n = true) :
    (linesI l).length ≤ (linesI (markT l a n)).length ∧ (linesI (markT l a n)).length ≤ (linesI l).length + 17 := by
  have h' := right_markT h a n
  rw [linesI_len h, linesI_len h']
  have hm : ∀ j, j < 32 → keptT l j = true → keptT (markT l a n) j = true := fun j hj hk => by
    rw [keptT_mem h' j hj]
    exact mark_keeps2 h a n _ ((keptT_mem h j hj).1 hk)
  refine ⟨List.countP_mono_left fun j hj hk => hm j (List.mem_range.1 hj) hk, ?_⟩
  obtain ⟨x1, x2, x3, x4, x5⟩ := (extB_iff a n).1 hx
  have key : ∀ j, j < 32 → keptT (markT l a n) j = true → (keptT l j || (decide ((a / 128).toNat ≤ j) && decide (j < (a / 128).toNat + 17))) = true := by
    intro j hj hk
    rw [Bool.or_eq_true, keptT_iff]
    rw [keptT_iff] at hk
    by_cases hin : (a / 128).toNat ≤ j ∧ j < (a / 128).toNat + 17
    · right; rw [decide_eq_true hin.1, decide_eq_true hin.2]; rfl
    · left
      rcases hk with hk | ⟨h0, hk⟩
      · rw [markT_getD _ _ _ _ hj] at hk
        left
        intro he
        apply hk
        unfold markF
        split
        · rw [if_neg (by omega), he]
        · rw [if_neg (by omega), he]
      · right
        refine ⟨h0, ?_⟩
        rw [markT_getD _ _ _ _ (by omega)] at hk
        unfold markF at hk
        split at hk
        · rw [if_neg (by omega)] at hk; exact hk
        · split at hk
          · have := (right_iff l).1 h
            have := this.2 (j - 1) (by omega)
            omega
          · exact hk
  have h1 : (List.range 32).countP (keptT (markT l a n)) ≤ (List.range 32).countP (fun j => keptT l j || (decide ((a / 128).toNat ≤ j) && decide (j < (a / 128).toNat + 17))) :=
    List.countP_mono_left fun j hj hk => key j (List.mem_range.1 hj) hk
  have h2 : ∀ (L : List Nat) (p q : Nat → Bool), L.countP (fun j => p j || q j) ≤ L.countP p + L.countP q := by
    intro L p q
    induction L with
    | nil => exact Nat.le_refl _
    | cons x L ih =>
      rw [List.countP_cons, List.countP_cons, List.countP_cons]
      cases p x <;> cases q x <;> simp <;> omega
  have h3 := h2 (List.range 32) (keptT l) (fun j => decide ((a / 128).toNat ≤ j) && decide (j < (a / 128).toNat + 17))
  have h4 : (List.range 32).countP (fun j => decide ((a / 128).toNat ≤ j) && decide (j < (a / 128).toNat + 17)) ≤ 17 := by
    have e : (List.range 32).countP (fun j => decide ((a / 128).toNat ≤ j) && decide (j < (a / 128).toNat + 17)) ≤ (List.range ((a / 128).toNat + 17 + 32)).countP (fun j => decide ((a / 128).toNat ≤ j) && decide (j < (a / 128).toNat + 17)) := by
      refine List.Sublist.countP_le (List.range_sublist.2 (by omega))
    rw [List.countP_eq_length_filter (l := List.range ((a / 128).toNat + 17 + 32))] at e
    rw [filter_ival _ _ _ (by omega) (by omega)] at e
    omega
  omega
/-- A hole that is left begins no earlier. -/
theorem mark_next {l : List Int} (h : rightT l = true) (a n : Int) (x : Int) (i1 i2 : Nat) (hs : nextO (markT l a n) x = some (i1, i2)) : ∃ h1 h2 : Nat, nextO l x = some (h1, h2) ∧ h1 ≤ i1 := by
  have h' := right_markT h a n
  obtain ⟨k1, k2, k3, k4, k5, k6⟩ := next_some h' x i1 i2 hs
  have hno : keptI l (i1 : Int) = false := by
    have := k5 i1 (Nat.le_refl _) k1
    unfold keptI at this ⊢
    rw [decide_eq_false_iff_not] at this ⊢
    exact fun hm => this (mark_keeps2 h a n _ hm)
  cases hn : nextO l x with
  | none =>
    have := next_none h x hn i1 k3 (by omega)
    rw [hno] at this
    cases this
  | some y =>
    obtain ⟨h1, h2⟩ := y
    refine ⟨h1, h2, rfl, ?_⟩
    obtain ⟨q1, q2, q3, q4, q5, q6⟩ := next_some h x h1 h2 hn
    rcases Nat.lt_or_ge i1 h1 with hlt | hge
    · have := q4 i1 k3 hlt
      rw [hno] at this
      cases this
    · exact hge
theorem roomE_right {l : List Int} (h : rightT l = true) : roomE l = 32 - ((linesI l).length : Int) := by
  have e : roomE l = roomH (allL l) := by unfold roomE allL; rw [h]; rfl
  rw [e, room_count h]

set_option maxHeartbeats 4000000 in
set_option maxRecDepth 100000 in
theorem marks_law {E : Env7} {w : World} (hGl : Glob7 E w) {v : Value} {l : List Int} (hv : IntsV w v l) (a n x : Int) :
    Calls Tryd.prog 3 #[v, .int .i64 a, .int .i64 n, .int .i64 x] w fun r w' => r = .returned (.bool true) ∧ Below w.heap.size w w' := by
  have hb : Below w.heap.size w w := Below.refl _ _
  generalize hl' : l.take 34 = l'
  have HL := Lib.hid hl'
  clear hl'
  go_enter Tryd.func3, Tryd.ntmps3
  go_wp2_with fail
  refine (shown_any).mono ?_
  rintro r w0 ⟨rfl, hb0⟩
  replace hv := hv.below hb0
  replace hGl := hGl.below hb0
  replace hb := hb.trans (hb0.mono hb.size)
  clear hb0
  go_wp2_with fail
  refine (cut_any hv).mono ?_
  rintro r w1 ⟨⟨vc, rfl, hc⟩, rfl⟩
  clear hv
  rw [HL.out] at hc
  clear HL
  have m1 := mark_any hGl hc a n
  by_cases h0 : markE l' a n = 0
  · obtain ⟨hr, hx⟩ := (markE_zero l' a n).1 h0
    rw [h0, markL_yes h0] at m1
    have hr' := right_markT hr a n
    have hcnt := mark_count hr a n hx
    have hnx := fun i1 i2 => mark_next hr a n x i1 i2
    have e1 := roomE_right hr
    have e2 := roomE_right hr'
    clear h0 hx hr
    generalize markT l' a n = u at *
    have HR := Lib.hid hr'
    have hR1 : roomE u ≤ roomE l' := by omega
    have hR2 : roomE l' ≤ roomE u + 17 := by omega
    have hR3 : roomE u ≤ 32 := by omega
    have hR4 : roomE l' ≤ 32 := by omega
    have hR5 : -100 ≤ roomE u := by
      have : (linesI u).length ≤ 32 := by rw [linesI_len HR.out]; exact Nat.le_trans List.countP_le_length (by simp)
      omega
    clear hr' hcnt e1 e2
    go_wp2_with fail
    refine m1.mono ?_
    rintro r w2 ⟨⟨vu, rfl, hu⟩, hb2⟩
    replace hc := hc.below hb2
    replace hb := hb.trans (hb2.mono hb.size)
    clear m1 hb2 hGl
    have g1 : decide (roomE u ≤ roomE l') = true := decide_eq_true hR1
    have g2 : decide (roomE l' ≤ roomE u + 17) = true := decide_eq_true hR2
    have hRU : ∀ (W : World), IntsV W vu u → Calls Tryd.prog 8 #[vu] W fun r w' => r = .returned (.int .i64 (roomE u)) ∧ Below W.heap.size W w' := fun W h => room_any h
    have hRC : ∀ (W : World), IntsV W vc l' → Calls Tryd.prog 8 #[vc] W fun r w' => r = .returned (.int .i64 (roomE l')) ∧ Below W.heap.size W w' := fun W h => room_any h
    have m1 := next_any hc x
    generalize roomE u = ru at *
    generalize roomE l' = rl at *
    cases hn : nextO u x with
    | none =>
      have hN := Lib.hid hn
      obtain ⟨y1, y2, hy⟩ := encH_agg (nextO l' x)
      rw [hy] at m1
      generalize (nextO l' x).isSome = ok1 at m1
      clear hn hnx hy
      go_wp2_with fail
      refine m1.mono ?_
      rintro r w3 ⟨rfl, hb3⟩
      obtain ⟨w4, hw4, e0, e9, b4⟩ := allocs1 w3 (.cells #[.int .i64 (y1 : Int), .int .i64 (y2 : Int)] 29)
      have hbb := hb3.trans (e0.mono hb3.size)
      replace hc := hc.below hbb
      replace hu := hu.below hbb
      replace hb := hb.trans (hbb.mono hb.size)
      have m2 := next_any hu x
      rw [hN.out] at m2
      change Calls _ _ _ _ fun r w' => r = .returned (.tuple #[.agg #[.int .i64 0, .int .i64 0], .bool false]) ∧ _ at m2
      clear m1 hb3 e0 e9 hbb b4
      go_wp2_with fail
      refine m2.mono ?_
      rintro r w5 ⟨rfl, hb5⟩
      obtain ⟨w6, hw6, e0, e9, b6⟩ := allocs1 w5 (.cells #[.int .i64 0, .int .i64 0] 29)
      have hbb := hb5.trans (e0.mono hb5.size)
      replace hc := hc.below hbb
      replace hu := hu.below hbb
      replace hb := hb.trans (hbb.mono hb.size)
      have HW := Lib.hid hw6
      clear m2 hb5 e0 e9 hbb b6 hw4 hw6
      have r1 := hRU w6 hu
      go_wp2_with fail
      rw [HW.out]
      refine r1.mono ?_
      rintro r w7 ⟨rfl, hb7⟩
      replace hu := hu.below hb7
      replace hc := hc.below hb7
      replace hb := hb.trans (hb7.mono hb.size)
      clear hb7 r1
      have r2 := hRC w7 hc
      go_wp2_with fail
      refine r2.mono ?_
      rintro r w8 ⟨rfl, hb8⟩
      replace hu := hu.below hb8
      replace hc := hc.below hb8
      replace hb := hb.trans (hb8.mono hb.size)
      clear hb8 r2
      have r3 := hRU w8 hu
      go_wp2_with fail
      refine r3.mono ?_
      rintro r w9 ⟨rfl, hb9⟩
      replace hu := hu.below hb9
      replace hc := hc.below hb9
      replace hb := hb.trans (hb9.mono hb.size)
      clear hb9 r3
      have r4 := hRC w9 hc
      go_wp2_with fail
      refine r4.mono ?_
      rintro r w10 ⟨rfl, hb10⟩
      replace hu := hu.below hb10
      replace hc := hc.below hb10
      replace hb := hb.trans (hb10.mono hb.size)
      clear hb10 r4
      have r5 := refRight_any hu
      rw [HR.out] at r5
      go_wp2_with fail
      refine r5.mono ?_
      rintro r w11 ⟨rfl, hb11⟩
      have hb' := hb.trans (hb11.mono hb.size)
      clear r5 hb11 hu hc
      go_wp2
      go_ret
      exact ⟨rfl, hb'⟩
    | some y =>
      obtain ⟨i1, i2⟩ := y
      obtain ⟨h1, h2, hn1, hle⟩ := hnx i1 i2 hn
      have hN := Lib.hid hn
      rw [hn1] at m1
      change Calls _ _ _ _ fun r w' => r = .returned (.tuple #[.agg #[.int .i64 (h1 : Int), .int .i64 (h2 : Int)], .bool true]) ∧ _ at m1
      clear hn hnx hn1
      go_wp2_with fail
      refine m1.mono ?_
      rintro r w3 ⟨rfl, hb3⟩
      obtain ⟨w4, hw4, e0, e9, b4⟩ := allocs1 w3 (.cells #[.int .i64 (h1 : Int), .int .i64 (h2 : Int)] 29)
      have hbb := hb3.trans (e0.mono hb3.size)
      replace hc := hc.below hbb
      replace hu := hu.below hbb
      replace hb := hb.trans (hbb.mono hb.size)
      have m2 := next_any hu x
      rw [hN.out] at m2
      change Calls _ _ _ _ fun r w' => r = .returned (.tuple #[.agg #[.int .i64 (i1 : Int), .int .i64 (i2 : Int)], .bool true]) ∧ _ at m2
      clear m1 hb3 e0 e9 hbb
      go_wp2_with fail
      refine m2.mono ?_
      rintro r w5 ⟨rfl, hb5⟩
      replace b4 := (hb5.block _ (block_lt b4)).trans b4
      obtain ⟨w6, hw6, e0, e9, b6⟩ := allocs1 w5 (.cells #[.int .i64 (i1 : Int), .int .i64 (i2 : Int)] 29)
      have hbb := hb5.trans (e0.mono hb5.size)
      replace hc := hc.below hbb
      replace hu := hu.below hbb
      replace hb := hb.trans (hbb.mono hb.size)
      replace b4 := (e0.block _ (block_lt b4)).trans b4
      clear m2 hb5 e0 e9 hbb hw4
      have r1 := hRU w6 hu
      go_wp2_with fail
      refine r1.mono ?_
      rintro r w7 ⟨rfl, hb7⟩
      replace hu := hu.below hb7
      replace hc := hc.below hb7
      replace hb := hb.trans (hb7.mono hb.size)
      replace b4 := (hb7.block _ (block_lt b4)).trans b4
      replace b6 := (hb7.block _ (block_lt b6)).trans b6
      clear hb7 r1
      have r2 := hRC w7 hc
      go_wp2_with fail
      refine r2.mono ?_
      rintro r w8 ⟨rfl, hb8⟩
      replace hu := hu.below hb8
      replace hc := hc.below hb8
      replace hb := hb.trans (hb8.mono hb.size)
      replace b4 := (hb8.block _ (block_lt b4)).trans b4
      replace b6 := (hb8.block _ (block_lt b6)).trans b6
      clear hb8 r2
      have r3 := hRU w8 hu
      go_wp2_with fail
      refine r3.mono ?_
      rintro r w9 ⟨rfl, hb9⟩
      replace hu := hu.below hb9
      replace hc := hc.below hb9
      replace hb := hb.trans (hb9.mono hb.size)
      replace b4 := (hb9.block _ (block_lt b4)).trans b4
      replace b6 := (hb9.block _ (block_lt b6)).trans b6
      clear hb9 r3
      have r4 := hRC w9 hc
      go_wp2_with fail
      refine r4.mono ?_
      rintro r w10 ⟨rfl, hb10⟩
      replace hu := hu.below hb10
      replace hc := hc.below hb10
      replace hb := hb.trans (hb10.mono hb.size)
      replace b4 := (hb10.block _ (block_lt b4)).trans b4
      replace b6 := (hb10.block _ (block_lt b6)).trans b6
      clear hb10 r4
      have c4 := cells_cell (i := 0) b4 (v := .int .i64 (h1 : Int)) rfl
      have c6 := cells_cell (i := 0) b6 (v := .int .i64 (i1 : Int)) rfl
      have g3 : decide ((h1 : Int) ≤ (i1 : Int)) = true := decide_eq_true (by omega)
      have g4 : decide (h1 ≤ i1) = true := decide_eq_true hle
      clear b4 b6
      have r5 := refRight_any hu
      rw [HR.out] at r5
      go_wp2_with fail
      refine r5.mono ?_
      rintro r w11 ⟨rfl, hb11⟩
      have hb' := hb.trans (hb11.mono hb.size)
      clear r5 hb11 hu hc c4 c6
      go_wp2
      go_ret
      exact ⟨rfl, hb'⟩
  · have hL := markL_nil (l := l') (a := a) (n := n) h0
    rw [hL] at m1
    have hne : ¬ markE l' a n = 0 := h0
    generalize markE l' a n = e at *
    clear h0 hL
    obtain ⟨y1, y2, hy⟩ := encH_agg (nextO l' x)
    have HY := Lib.hid hy
    generalize (nextO l' x).isSome = ok1 at HY
    clear hy
    go_wp2_with fail
    refine m1.mono ?_
    rintro r w2 ⟨⟨vu, rfl, hu⟩, hb2⟩
    replace hc := hc.below hb2
    replace hb := hb.trans (hb2.mono hb.size)
    clear m1 hb2 hGl
    have m1 := next_any hc x
    rw [HY.out] at m1
    go_wp2_with fail
    refine m1.mono ?_
    rintro r w3 ⟨rfl, hb3⟩
    obtain ⟨w4, hw4, e0, e9, b4⟩ := allocs1 w3 (.cells #[.int .i64 (y1 : Int), .int .i64 (y2 : Int)] 29)
    have hbb := hb3.trans (e0.mono hb3.size)
    replace hu := hu.below hbb
    replace hb := hb.trans (hbb.mono hb.size)
    have m2 := next_any hu x
    rw [show nextO [] x = none from rfl] at m2
    change Calls _ _ _ _ fun r w' => r = .returned (.tuple #[.agg #[.int .i64 0, .int .i64 0], .bool false]) ∧ _ at m2
    clear m1 hb3 e0 e9 hbb b4 hc hu
    go_wp2_with fail
    refine m2.mono ?_
    rintro r w5 ⟨rfl, hb5⟩
    replace hb := hb.trans (hb5.mono hb.size)
    clear m2 hb5 hw4
    go_wp2
    go_ret
    exact ⟨rfl, by first | exact hb | exact hb.alloc hb.size _⟩
end Go.Proofs.YtmgllljilnkkcaaDoor

namespace Go.Proofs.YtmgllljilnkkcaaDoor.lawHoleMarks
open Go.ChangeShapes Go.WideShapes Go.ChangeAt Go.RowKit
set_option maxRecDepth 100000 in
theorem told (H : Type) (enc : TypeId × Value → H) (W : World) (base : Nat) (args : Array Value) (ds gs : List (DataW H)) (before : List MemPlace)
    (hval : ∀ (j : Nat) t v, Tryd.f3.params[j]? = some t → args[j]? = some v → Value.okWide Tryd.prog W .any base t v)
    (hW : DataW.Whole enc Tryd.prog Tryd.f3.params.toList Rows.holeMarksSpec.vars false W args.toList ds gs before) (hL : laidMetH Tryd.prog laidL W) :
    Calls Tryd.prog 3 args W fun e W' => ∃ v, e = .returned v ∧ Rows.holeMarksSpec.post enc Tryd.prog Tryd.f3 false true false false W args v W' := by
  have hW' := hW
  obtain ⟨p, q, hA0, hV, rfl, hfz, hnd⟩ := hW
  have hA : DataW.TrodAll enc Tryd.prog W 0 (fun _ => true) true Tryd.f3.params.toList args.toList ds p := hA0
  rw [Tryd.params3] at hA hval
  obtain ⟨v0, vs0, d0, ds0, p0, q0, hargs, rfl, rfl, h0, r0⟩ := trodAll_cons hA
  obtain ⟨v1, vs1, d1, ds1, p1, q1, rfl, rfl, rfl, h1, r1⟩ := trodAll_cons r0
  obtain ⟨v2, vs2, d2, ds2, p2, q2, rfl, rfl, rfl, h2, r2⟩ := trodAll_cons r1
  obtain ⟨v3, vs3, d3, ds3, p3, q3, rfl, rfl, rfl, h3, r3⟩ := trodAll_cons r2
  obtain ⟨rfl, rfl, rfl⟩ := trodAll_nil r3
  obtain rfl : args = #[v0, v1, v2, v3] := by cases args; simp_all
  obtain ⟨rfl, rfl⟩ := trodVars_none hV
  have k0 := h0
  have k1 := h1
  have k2 := h2
  have k3 := h3
  obtain ⟨l0, i0⟩ := ints_open (hval 0 22 v0 rfl rfl) h0
  obtain ⟨x1, rfl, rfl, rfl, wx1⟩ := open_int Tryd.underlying3 (hval 1 3 v1 rfl rfl) h1
  obtain ⟨x2, rfl, rfl, rfl, wx2⟩ := open_int Tryd.underlying3 (hval 2 3 v2 rfl rfl) h2
  obtain ⟨x3, rfl, rfl, rfl, wx3⟩ := open_int Tryd.underlying3 (hval 3 3 v3 rfl rfl) h3
  clear hA0
  simp only [List.append_nil] at hW'
  obtain ⟨E, hGl⟩ := glob_of_laid hL
  refine (marks_law hGl i0 x1 x2 x3).mono fun e W' ⟨he, hb⟩ => ?_
  subst he
  have hlt := hW'.lt
  have harg0 := Below.trod laidOut (by kernel_rfl) (of_decide_eq_true (by kernel_rfl)) k0 hb (fun y hy => by first | (cases hy; done) | (simpa using hlt y (by simp [hy])))
  have harg1 := Below.trod laidOut (by kernel_rfl) (of_decide_eq_true (by kernel_rfl)) k1 hb (fun y hy => by first | (cases hy; done) | (simpa using hlt y (by simp [hy])))
  have harg2 := Below.trod laidOut (by kernel_rfl) (of_decide_eq_true (by kernel_rfl)) k2 hb (fun y hy => by first | (cases hy; done) | (simpa using hlt y (by simp [hy])))
  have harg3 := Below.trod laidOut (by kernel_rfl) (of_decide_eq_true (by kernel_rfl)) k3 hb (fun y hy => by first | (cases hy; done) | (simpa using hlt y (by simp [hy])))
  exact ⟨_, rfl, _, _, _, [], _, [], hW', trodAll_cons_mk (shut_bool Tryd.underlying4 _) trodAll_mk0, (trodAll_cons_mk harg0 (trodAll_cons_mk harg1 (trodAll_cons_mk harg2 (trodAll_cons_mk harg3 trodAll_mk0)))), rfl, hb.frame _, fun h => by cases h⟩

set_option maxRecDepth 100000 in
theorem lifted (os : Os) (started : os.Started) (H : Type) (enc : TypeId × Value → H) :
    ReturnsInHanded {} Tryd.checked os 3 .any (fun w args => (Rows.holeMarksSpec.pre enc Tryd.prog Tryd.f3 [] false w args ∧ laidMetH Tryd.prog laidL w) ∧ sizedMet enc Tryd.prog Tryd.f3 (OpenSpec.ofChange Rows.holeMarksSpec) false w args)
      (Rows.holeMarksSpec.post enc Tryd.prog Tryd.f3 false true false false) := by
  refine returnsInHanded_of_change_and (C := Tryd.checked) (X := fun w _ => laidMetH Tryd.prog laidL w) (fun _ _ _ hh h => h.of_heap hh) own started (by kernel_rfl) Tryd.func3
    (ChangeSpec.witness_shaped (enc := enc) (C := Tryd.checked) (os := os) (X := fun w _ => laidMetH Tryd.prog laidL w) false (World.doorLaid Tryd.prog 112 os) #[.slice none 0 0, .int .i64 0, .int .i64 0, .int .i64 0] 8 rfl (World.shaped_of_RefB (by kernel_rfl) (by kernel_rfl)) (by kernel_rfl) (by kernel_rfl) (by kernel_rfl) (door_met os _)) ?_
  intro W base args ds gs before hval hW _ _ hL _
  exact told H enc W base args ds gs before hval hW hL

theorem said : Rows.HoleMarksSaid :=
  OpenClaim.holds_of_wide 3 Tryd.f3 rfl rfl rfl rfl rfl rfl rfl ⟨rfl, rfl, rfl, rfl, rfl⟩ rfl rfl rfl rfl rfl (by kernel_rfl) Tryd.func3 (by kernel_rfl)
    (of_decide_eq_true (by kernel_rfl)) (by unfold Func.isWrapper; first | (rw [if_pos (by decide +kernel)]; kernel_rfl) | (rw [if_neg (by decide +kernel)]; exact ⟨rfl, rfl⟩))
    (fun os started H enc _ => lifted os started H enc)

theorem plain (f : FuncId) (fn : Func) (hf : Tryd.pinned.checked.prog.funcNamed "selion/selionlaw08.HoleMarks" = some f) (hfn : Tryd.pinned.checked.prog.funcs[f]? = some fn) :
    true = Tryd.pinned.checked.prog.looks [] ∧ ∀ (j : Nat) t, fn.params[j]? = some t → Tryd.pinned.checked.prog.wantsStandIn t = false := by
  obtain rfl : f = 3 := Option.some.inj ((show Tryd.prog.funcNamed "selion/selionlaw08.HoleMarks" = some 3 by kernel_rfl).symm.trans hf) |>.symm
  obtain rfl : fn = Tryd.f3 := (Option.some.inj (Tryd.func3.symm.trans hfn)).symm
  refine ⟨by kernel_rfl, fun j t ht => ?_⟩
  have hm : t ∈ Tryd.f3.params := Array.mem_of_getElem? ht
  rw [Tryd.params3] at hm
  have hm' : t = 22 ∨ t = 3 := by simpa using hm
  rcases hm' with rfl | rfl
  · exact (show Tryd.prog.wantsStandIn 22 = false by kernel_rfl)
  · exact (show Tryd.prog.wantsStandIn 3 = false by kernel_rfl)

/-- THE CARD. -/
theorem card : Rows.HoleMarksCardSaid :=
  Claim7.holds_tied_plain_at .later [] _ _ _ _ said (fun _ h => by cases h) (by kernel_rfl) (fun _ h => by cases h) holeMarks_row_tie rfl ⟨rfl, rfl⟩ (by kernel_rfl) rfl plain (by kernel_rfl)
end Go.Proofs.YtmgllljilnkkcaaDoor.lawHoleMarks

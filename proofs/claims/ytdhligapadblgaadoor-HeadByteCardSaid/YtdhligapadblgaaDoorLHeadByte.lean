/- HeadByte holds of all heads, places, numbers: the law's own text walked, and the card. -/
import Derived.Test.YtdhligapadblgaaDoorK7
import Derived.Test.YtdhligapadblgaaDoorCards
import Derived.Test.YtdhligapadblgaaDoorTie
import Derived.Deep.RegionHeld3
namespace Go.Proofs.YtdhligapadblgaaDoor
open Go.RowKit
attribute [local go_sem ↓] Go.wp_at_zero Go.wp_at_succ

theorem conv_one (W : World) (g cap z : Nat) (hz : z < 256) (h : W.cell? ⟨g, 0, none⟩ = some (.int .u8 (z : Int))) : (convert 34 9 (.slice (some ⟨g, 0, none⟩) 1 cap)).run Tryd.prog W = .ok (.string ⟨#[UInt8.ofNat z]⟩) W := by
  have := run_convert_bytes_back (P := Tryd.prog) W 34 9 5 ⟨g, 0, none⟩ cap [UInt8.ofNat z] Tryd.underlying34 Tryd.underlying5 Tryd.underlying9 (fun j hj => by
    obtain rfl : j = 0 := by simpa using hj
    rw [Addr.add_lit, Nat.add_zero, h]
    congr 2
    simp
    omega)
  exact this

theorem encS_at (k c e l A : Nat) (h : A < (encS k c e l).size) : ((encS k c e l)[A]'h).toNat = (headL k c e l).getD A 0 := by
  have h8 : A < (headL k c e l).length := h
  have h256 := headL_lt k c e l _ (List.getElem_mem h8)
  have e1 : (encS k c e l)[A]'h = UInt8.ofNat ((headL k c e l)[A]'h8) := by
    show (headU k c e l).toArray[A]'h = _
    simp [headU]
  rw [e1, List.getD_eq_getElem?_getD, List.getElem?_eq_getElem h8]
  simp
  omega

set_option maxHeartbeats 4000000 in
set_option maxRecDepth 20000 in
theorem byte_law {E : EnvH} {w : World} (hG : GlobH E w) {k l c e : Int} (a d : Int) :
    Calls Tryd.prog 4 #[.agg #[.int .i64 k, .int .i64 l, .int .i64 c, .int .i64 e], .int .i64 a, .int .i64 d] w fun r w' => r = .returned (.bool true) ∧ Below w.heap.size w w' := by
  obtain ⟨w1, hw1, a0, -, a1⟩ := allocs1 w (.cells #[.int .i64 k, .int .i64 l, .int .i64 c, .int .i64 e] 23)
  have hG1 := hG.below a0
  have m1 := shown_anyH hG1
  have HG := Lib.hid hG1
  clear hG hG1
  go_enter Tryd.func4, Tryd.ntmps4
  go_wp2_with fail
  refine m1.mono ?_
  rintro r w2 ⟨rfl, hb2⟩
  have b1 := (hb2.block _ (block_lt a1)).trans a1
  have c0 := cells_cell (i := 0) b1 (v := .int .i64 k) rfl
  have c1 := cells_cell (i := 1) b1 (v := .int .i64 l) rfl
  have c2 := cells_cell (i := 2) b1 (v := .int .i64 c) rfl
  have c3 := cells_cell (i := 3) b1 (v := .int .i64 e) rfl
  have m2 := encode_any (HG.out.below hb2) k l c e
  clear a1 hw1 m1
  go_wp2_with fail
  refine m2.mono ?_
  rintro r w3 ⟨rfl, hb3⟩
  have hB3 := blH hb2 hb3
  have hBw := blH a0 hB3
  clear c0 c1 c2 c3 m2 hb2 hb3 b1 a0
  cases hr : rightM k l c e with
  | false =>
    have q1 : encE k l c e = 60 := by unfold encE; rw [hr]; rfl
    have q2 : encI k l c e = ⟨#[]⟩ := by unfold encI; rw [hr]; rfl
    rw [q1, q2]
    clear q1 q2 hr
    go_wp2; go_ret; exact ⟨rfl, hBw⟩
  | true =>
    have q1 : encE k l c e = 0 := by unfold encE; rw [hr]; rfl
    have s1 := encI_size hr
    obtain ⟨h1, h2, h3, h4, h5, h6, h7, h8⟩ := rightM_iff hr
    have q2 : encI k l c e = encS k.toNat c.toNat e.toNat l.toNat := by unfold encI; rw [hr]; rfl
    generalize k.toNat = K at *
    generalize l.toNat = L at *
    generalize c.toNat = C at *
    generalize e.toNat = D at *
    rw [q1, q2]
    rw [q2] at s1
    clear q1 q2 hr h1 h2 h3 h4 h5 h6 h7 h8
    by_cases ha0 : a < 0
    · have g0 : decide (a < 0) = true := decide_eq_true ha0
      generalize encS K C D L = x at *
      clear s1
      go_wp2; go_ret; exact ⟨rfl, hBw⟩
    · have g0 : decide (a < 0) = false := decide_eq_false ha0
      by_cases ha8 : 8 ≤ a
      · have g1 : decide (8 ≤ a) = true := decide_eq_true ha8
        generalize encS K C D L = x at *
        go_wp2; go_ret; exact ⟨rfl, hBw⟩
      · have g1 : decide (8 ≤ a) = false := decide_eq_false ha8
        by_cases hd1 : d < 1
        · have g2 : decide (d < 1) = true := decide_eq_true hd1
          generalize encS K C D L = x at *
          go_wp2; go_ret; exact ⟨rfl, hBw⟩
        · have g2 : decide (d < 1) = false := decide_eq_false hd1
          by_cases hd2 : 255 < d
          · have g3 : decide (255 < d) = true := decide_eq_true hd2
            generalize encS K C D L = x at *
            go_wp2; go_ret; exact ⟨rfl, hBw⟩
          · have g3 : decide (255 < d) = false := decide_eq_false hd2
            obtain ⟨A, rfl⟩ : ∃ A : Nat, a = A := ⟨a.toNat, by omega⟩
            obtain ⟨B, rfl⟩ : ∃ B : Nat, d = B := ⟨d.toNat, by omega⟩
            have hA : A < 8 := by omega
            have hB : 1 ≤ B ∧ B ≤ 255 := by omega
            have hbad := bad_dec K C D L A B hA hB
            rw [← bad_eq K C D L A B hA] at hbad
            have hn : ∀ h : A < (encS K C D L).size, ((encS K C D L)[A]'h).toNat = (headL K C D L).getD A 0 := fun h => encS_at K C D L A h
            have hlt : (headL K C D L).getD A 0 < 256 := headL_lt K C D L _ (by rw [List.getD_eq_getElem?_getD, List.getElem?_eq_getElem (show A < (headL K C D L).length from hA)]; exact List.getElem_mem _)
            have X := u8_xor_nat _ B hlt (by omega)
            have hz := xor_lt8 hlt (show B < 256 by omega)
            generalize (headL K C D L).getD A 0 = n at *
            generalize n ^^^ B = z at *
            generalize encS K C D L = x at *
            have HD := Lib.hid (fun (W : World) (h : Below w1.heap.size w1 W) (y : ByteArray) (hy : decB y = false) => show Calls Tryd.prog 12 #[.string y] W fun r w' => r = .returned (.tuple #[.agg #[.int .i64 0, .int .i64 0, .int .i64 0, .int .i64 0], .int .i64 60]) ∧ Below W.heap.size W w' by
              have := decode_any (HG.out.below h) y
              unfold decE decX at this
              rwa [hy] at this)
            have hsz : x.size = 8 := s1
            rw [hsz] at hbad
            have hcv := fun (W : World) (g cap : Nat) (h : W.cell? ⟨g, 0, none⟩ = some (.int .u8 (z : Int))) => conv_one W g cap z hz h
            have fA : ((w3.alloc (.cells #[.int .i64 0, .int .i64 0, .int .i64 0, .int .i64 0] 23)).alloc (.cells #[.int .u8 (z : Int)] 5)).heap[w3.heap.size]? = some (.cells #[.int .i64 0, .int .i64 0, .int .i64 0, .int .i64 0] 23) := by obtain ⟨V, h, -, -, f, -⟩ := allocs2 w3 (.cells #[.int .i64 0, .int .i64 0, .int .i64 0, .int .i64 0] 23) (.cells #[.int .u8 (z : Int)] 5); rw [h]; exact f
            have fB : ((w3.alloc (.cells #[.int .u8 (z : Int)] 5)).alloc (.cells #[.int .i64 0, .int .i64 0, .int .i64 0, .int .i64 0] 23)).heap[w3.heap.size + 1]? = some (.cells #[.int .i64 0, .int .i64 0, .int .i64 0, .int .i64 0] 23) := by obtain ⟨V, h, -, -, -, f⟩ := allocs2 w3 (.cells #[.int .u8 (z : Int)] 5) (.cells #[.int .i64 0, .int .i64 0, .int .i64 0, .int .i64 0] 23); rw [h]; exact f
            have iA := byte_small A (by omega)
            have iA1 := byte_small (A + 1) (by omega)
            have iA2 : IntKind.i64.wrap ((A : Int) + 1) = (A : Int) + 1 := IntWalk.i64_in _ (by omega)
            have iB : IntKind.u8.wrap (B : Int) = (B : Int) := by rw [IntKind.wrap_u8']; omega
            have cc1 : ¬ 9223372036854775807 < A + 1 := by omega
            have cc2 : ¬ 9223372036854775807 < A + 1 + (7 - A) := by omega
            have q1 : (0 : Int) ≤ (A : Int) := by omega
            have q2 : (A : Int) < 8 := by omega
            have q3 : (A : Int) ≤ 8 := by omega
            have q4 : (0 : Int) ≤ (A : Int) + 1 := by omega
            have q5 : (A : Int) + 1 ≤ 8 := by omega
            have q6 : A ≤ 8 := by omega
            have q7 : A + 1 ≤ 8 := by omega
            go_wp2_with fail
            have HC : Below w3.heap.size w3 w3 := Below.refl _ _
            have hFA := Lib.hid fA
            have hFB := Lib.hid fB
            refine wp_region_held_drew (S := (fun W' => Below w3.heap.size w3 W')) (by kernel_rfl) HC.drew (fun hHeld => ?_)
            refine wpAnyH_take (i := 0) (oi := ?o0x1) (v := ?v0x1) ?hi0x1 (by kernel_rfl) (by kernel_rfl) (by kernel_rfl) ?hq0x1 (Or.inl ⟨?hw0x1, ?hy0x1⟩) (by assumption) ?_
            case hi0x1 => simp only [List.getElem?_toArray, List.getElem?_cons_zero]; rfl
            case hq0x1 => exact fun _ _ _ h => h
            case hw0x1 => rfl
            case hy0x1 => (intro w hSw; (try dsimp only at hSw); go_simp; try with_reducible rfl)
            try simp only [Act.put, List.setIfInBounds_toArray, List.set_cons_zero, List.set_cons_succ]
            refine wpAnyH_take (i := 1) (oi := ?o1x2) (v := ?v1x2) ?hi1x2 (by kernel_rfl) (by kernel_rfl) (by kernel_rfl) ?hq1x2 (Or.inl ⟨?hw1x2, ?hy1x2⟩) (by assumption) ?_
            case hi1x2 => simp only [List.getElem?_toArray, List.getElem?_cons_succ, List.getElem?_cons_zero]; rfl
            case hq1x2 => exact fun _ _ _ h => h
            case hw1x2 => rfl
            case hy1x2 => (intro w hSw; (try dsimp only at hSw); go_simp; try with_reducible rfl)
            try simp only [Act.put, List.setIfInBounds_toArray, List.set_cons_zero, List.set_cons_succ]
            refine wpAnyH_take (i := 2) (oi := ?o2x3) (v := ?v2x3) ?hi2x3 (by kernel_rfl) (by kernel_rfl) (by kernel_rfl) ?hq2x3 (Or.inl ⟨?hw2x3, ?hy2x3⟩) (by assumption) ?_
            case hi2x3 => simp only [List.getElem?_toArray, List.getElem?_cons_succ, List.getElem?_cons_zero]; rfl
            case hq2x3 => exact fun _ _ _ h => h
            case hw2x3 => rfl
            case hy2x3 => (intro w hSw; (try dsimp only at hSw); go_simp; try with_reducible rfl)
            try simp only [Act.put, List.setIfInBounds_toArray, List.set_cons_zero, List.set_cons_succ]
            refine wpAnyH_take (i := 3) (oi := ?o3x4) (v := ?v3x4) ?hi3x4 (by kernel_rfl) (by kernel_rfl) (by kernel_rfl) ?hq3x4 (Or.inl ⟨?hw3x4, ?hy3x4⟩) (by assumption) ?_
            case hi3x4 => simp only [List.getElem?_toArray, List.getElem?_cons_succ, List.getElem?_cons_zero]; rfl
            case hq3x4 => exact fun _ _ _ h => h
            case hw3x4 => rfl
            case hy3x4 => (intro w hSw; (try dsimp only at hSw); go_simp; try with_reducible rfl)
            try simp only [Act.put, List.setIfInBounds_toArray, List.set_cons_zero, List.set_cons_succ]
            refine wpAnyH_take (i := 4) (oi := ?o4x5) (v := ?v4x5) ?hi4x5 (by kernel_rfl) (by kernel_rfl) (by kernel_rfl) ?hq4x5 (Or.inl ⟨?hw4x5, ?hy4x5⟩) (by assumption) ?_
            case hi4x5 => simp only [List.getElem?_toArray, List.getElem?_cons_succ, List.getElem?_cons_zero]; rfl
            case hq4x5 => exact fun _ _ _ h => h
            case hw4x5 => rfl
            case hy4x5 => (intro w hSw; (try dsimp only at hSw); go_simp; try with_reducible rfl)
            try simp only [Act.put, List.setIfInBounds_toArray, List.set_cons_zero, List.set_cons_succ]
            refine wpAnyH_take (i := 5) (oi := ?o5x6) (v := ?v5x6) ?hi5x6 (by kernel_rfl) (by kernel_rfl) (by kernel_rfl) ?hq5x6 (Or.inl ⟨?hw5x6, ?hy5x6⟩) (by assumption) ?_
            case hi5x6 => simp only [List.getElem?_toArray, List.getElem?_cons_succ, List.getElem?_cons_zero]; rfl
            case hq5x6 => exact fun _ _ _ h => h
            case hw5x6 => rfl
            case hy5x6 => (intro w hSw; (try dsimp only at hSw); go_simp; try with_reducible rfl)
            try simp only [Act.put, List.setIfInBounds_toArray, List.set_cons_zero, List.set_cons_succ]
            refine wpAnyH_take (i := 6) (oi := ?o6x7) (v := ?v6x7) ?hi6x7 (by kernel_rfl) (by kernel_rfl) (by kernel_rfl) ?hq6x7 (Or.inl ⟨?hw6x7, ?hy6x7⟩) (by assumption) ?_
            case hi6x7 => simp only [List.getElem?_toArray, List.getElem?_cons_succ, List.getElem?_cons_zero]; rfl
            case hq6x7 => exact fun _ _ _ h => h
            case hw6x7 => rfl
            case hy6x7 => (intro w hSw; (try dsimp only at hSw); go_simp; try with_reducible rfl)
            try simp only [Act.put, List.setIfInBounds_toArray, List.set_cons_zero, List.set_cons_succ]
            refine wpAnyH_take (i := 7) (oi := ?o7x8) (v := ?v7x8) ?hi7x8 (by kernel_rfl) (by kernel_rfl) (by kernel_rfl) ?hq7x8 (Or.inl ⟨?hw7x8, ?hy7x8⟩) (by assumption) ?_
            case hi7x8 => simp only [List.getElem?_toArray, List.getElem?_cons_succ, List.getElem?_cons_zero]; rfl
            case hq7x8 => exact fun _ _ _ h => h
            case hw7x8 => rfl
            case hy7x8 => (intro w hSw; (try dsimp only at hSw); go_simp; try with_reducible rfl)
            try simp only [Act.put, List.setIfInBounds_toArray, List.set_cons_zero, List.set_cons_succ]
            refine wpAnyH_take (i := 8) (oi := ?o8x9) (v := ?v8x9) ?hi8x9 (by kernel_rfl) (by kernel_rfl) (by kernel_rfl) ?hq8x9 (Or.inl ⟨?hw8x9, ?hy8x9⟩) (by assumption) ?_
            case hi8x9 => simp only [List.getElem?_toArray, List.getElem?_cons_succ, List.getElem?_cons_zero]; rfl
            case hq8x9 => exact fun _ _ _ h => h
            case hw8x9 => rfl
            case hy8x9 => (intro w hSw; (try dsimp only at hSw); go_simp; try with_reducible rfl)
            try simp only [Act.put, List.setIfInBounds_toArray, List.set_cons_zero, List.set_cons_succ]
            refine wpAnyH_take (i := 12) (oi := ?o12x10) (v := ?v12x10) ?hi12x10 (by kernel_rfl) (by kernel_rfl) (by kernel_rfl) ?hq12x10 (Or.inl ⟨?hw12x10, ?hy12x10⟩) (by assumption) ?_
            case hi12x10 => simp only [List.getElem?_toArray, List.getElem?_cons_succ, List.getElem?_cons_zero]; rfl
            case hq12x10 => exact fun _ _ _ h => h
            case hw12x10 => rfl
            case hy12x10 => (intro w hSw; (try dsimp only at hSw); go_simp; try with_reducible rfl)
            try simp only [Act.put, List.setIfInBounds_toArray, List.set_cons_zero, List.set_cons_succ]
            refine wpAnyH_take (i := 13) (oi := ?o13x11) (v := ?v13x11) ?hi13x11 (by kernel_rfl) (by kernel_rfl) (by kernel_rfl) ?hq13x11 (Or.inl ⟨?hw13x11, ?hy13x11⟩) (by assumption) ?_
            case hi13x11 => simp only [List.getElem?_toArray, List.getElem?_cons_succ, List.getElem?_cons_zero]; rfl
            case hq13x11 => exact fun _ _ _ h => h
            case hw13x11 => rfl
            case hy13x11 => (intro w hSw; (try dsimp only at hSw); go_simp; try with_reducible rfl)
            try simp only [Act.put, List.setIfInBounds_toArray, List.set_cons_zero, List.set_cons_succ]
            refine wpAnyH_take (i := 14) (oi := ?o14x12) (v := ?v14x12) ?hi14x12 (by kernel_rfl) (by kernel_rfl) (by kernel_rfl) ?hq14x12 (Or.inl ⟨?hw14x12, ?hy14x12⟩) (by assumption) ?_
            case hi14x12 => simp only [List.getElem?_toArray, List.getElem?_cons_succ, List.getElem?_cons_zero]; rfl
            case hq14x12 => exact fun _ _ _ h => h
            case hw14x12 => rfl
            case hy14x12 => (intro w hSw; (try dsimp only at hSw); go_simp; try with_reducible rfl)
            try simp only [Act.put, List.setIfInBounds_toArray, List.set_cons_zero, List.set_cons_succ]
            refine wpAnyH_take (i := 15) (oi := ?o15x13) (v := ?v15x13) ?hi15x13 (by kernel_rfl) (by kernel_rfl) (by kernel_rfl) ?hq15x13 (Or.inl ⟨?hw15x13, ?hy15x13⟩) (by assumption) ?_
            case hi15x13 => simp only [List.getElem?_toArray, List.getElem?_cons_succ, List.getElem?_cons_zero]; rfl
            case hq15x13 => exact fun _ _ _ h => h
            case hw15x13 => rfl
            case hy15x13 => (intro w hSw; (try dsimp only at hSw); go_simp; try with_reducible rfl)
            try simp only [Act.put, List.setIfInBounds_toArray, List.set_cons_zero, List.set_cons_succ]
            refine wpAnyH_ready (rs := [9, 21]) (by kernel_rfl) (by simp) (AllReadyH.cons (o := ?o9x14) ?hi9x14 (fun K hK => ?step9x14) (AllReadyH.cons (o := ?o21x14) ?hi21x14 (fun K hK => ?step21x14) AllReadyH.nil))
            case hi9x14 => simp only [List.getElem?_toArray, List.getElem?_cons_succ, List.getElem?_cons_zero]; rfl
            case hi21x14 => simp only [List.getElem?_toArray, List.getElem?_cons_succ, List.getElem?_cons_zero]; rfl
            case step9x14 =>
              go_simp
              refine hK.out _ _ (by repeat (first | exact HC | exact HC.size | exact Nat.le_refl _ | exact Nat.le_add_right _ _ | refine Below.setCell ?_ ?_ _ | refine Below.alloc ?_ ?_ _ | refine Below.drew ?_ | (simp; done) | (have := HC.size; simp; omega))) (fun hHeld => ?_)
              clear hK K
              try simp only [Act.put, List.setIfInBounds_toArray, List.set_cons_zero, List.set_cons_succ]
              refine wpAnyH_ready (rs := [10, 21]) (by kernel_rfl) (by simp) (AllReadyH.cons (o := ?o10x15) ?hi10x15 (fun K hK => ?step10x15) (AllReadyH.cons (o := ?o21x15) ?hi21x15 (fun K hK => ?step21x15) AllReadyH.nil))
              case hi10x15 => simp only [List.getElem?_toArray, List.getElem?_cons_succ, List.getElem?_cons_zero]; rfl
              case hi21x15 => simp only [List.getElem?_toArray, List.getElem?_cons_succ, List.getElem?_cons_zero]; rfl
              case step10x15 =>
                go_simp
                refine hK.out _ _ (by repeat (first | exact HC | exact HC.size | exact Nat.le_refl _ | exact Nat.le_add_right _ _ | refine Below.setCell ?_ ?_ _ | refine Below.alloc ?_ ?_ _ | refine Below.drew ?_ | (simp; done) | (have := HC.size; simp; omega))) (fun hHeld => ?_)
                clear hK K
                try simp only [Act.put, List.setIfInBounds_toArray, List.set_cons_zero, List.set_cons_succ]
                refine wpAnyH_take (i := 11) (oi := ?o11x16) (v := ?v11x16) ?hi11x16 (by kernel_rfl) (by kernel_rfl) (by kernel_rfl) ?hq11x16 (Or.inl ⟨?hw11x16, ?hy11x16⟩) (by assumption) ?_
                case hi11x16 => simp only [List.getElem?_toArray, List.getElem?_cons_succ, List.getElem?_cons_zero]; rfl
                case hq11x16 => exact fun _ _ _ h => h
                case hw11x16 => rfl
                case hy11x16 => (intro w hSw; (try dsimp only at hSw); go_simp; try with_reducible rfl)
                try simp only [Act.put, List.setIfInBounds_toArray, List.set_cons_zero, List.set_cons_succ]
                refine wpAnyH_take (i := 16) (oi := ?o16x17) (v := ?v16x17) ?hi16x17 (by kernel_rfl) (by kernel_rfl) (by kernel_rfl) ?hq16x17 (Or.inl ⟨?hw16x17, ?hy16x17⟩) (by assumption) ?_
                case hi16x17 => simp only [List.getElem?_toArray, List.getElem?_cons_succ, List.getElem?_cons_zero]; rfl
                case hq16x17 => exact fun _ _ _ h => h
                case hw16x17 => rfl
                case hy16x17 => (intro w hSw; (try dsimp only at hSw); go_simp; try with_reducible rfl)
                try simp only [Act.put, List.setIfInBounds_toArray, List.set_cons_zero, List.set_cons_succ]
                refine wpAnyH_ready (rs := [17, 21]) (by kernel_rfl) (by simp) (AllReadyH.cons (o := ?o17x18) ?hi17x18 (fun K hK => ?step17x18) (AllReadyH.cons (o := ?o21x18) ?hi21x18 (fun K hK => ?step21x18) AllReadyH.nil))
                case hi17x18 => simp only [List.getElem?_toArray, List.getElem?_cons_succ, List.getElem?_cons_zero]; rfl
                case hi21x18 => simp only [List.getElem?_toArray, List.getElem?_cons_succ, List.getElem?_cons_zero]; rfl
                case step17x18 =>
                  go_simp
                  go_at_call 12
                  refine (HD.out _ ?_ _ ?_).mono ?_
                  · exact blH hB3 (by repeat (first | exact HC | exact HC.size | exact Nat.le_refl _ | exact Nat.le_add_right _ _ | refine Below.setCell ?_ ?_ _ | refine Below.alloc ?_ ?_ _ | refine Below.drew ?_ | (simp; done) | (have := HC.size; simp; omega)))
                  · first | exact hbad | simpa using hbad
                  rintro r w' ⟨rfl, hb1⟩
                  have HC := (show Below w3.heap.size w3 w' from by refine blH ?_ hb1; repeat (first | exact HC | exact HC.size | exact Nat.le_refl _ | exact Nat.le_add_right _ _ | refine Below.setCell ?_ ?_ _ | refine Below.alloc ?_ ?_ _ | refine Below.drew ?_ | (simp; done) | (have := HC.size; simp; omega)))
                  refine hK.out _ _ (by repeat (first | exact HC | exact HC.size | exact Nat.le_refl _ | exact Nat.le_add_right _ _ | refine Below.setCell ?_ ?_ _ | refine Below.alloc ?_ ?_ _ | refine Below.drew ?_ | (simp; done) | (have := HC.size; simp; omega))) (fun hHeld => ?_)
                  clear hK K
                  try simp only [Act.put, List.setIfInBounds_toArray, List.set_cons_zero, List.set_cons_succ]
                  refine wpAnyH_take (i := 18) (oi := ?o18x19) (v := ?v18x19) ?hi18x19 (by kernel_rfl) (by kernel_rfl) (by kernel_rfl) ?hq18x19 (Or.inl ⟨?hw18x19, ?hy18x19⟩) (by assumption) ?_
                  case hi18x19 => simp only [List.getElem?_toArray, List.getElem?_cons_succ, List.getElem?_cons_zero]; rfl
                  case hq18x19 => exact fun _ _ _ h => h
                  case hw18x19 => rfl
                  case hy18x19 => (intro w hSw; (try dsimp only at hSw); go_simp; try with_reducible rfl)
                  try simp only [Act.put, List.setIfInBounds_toArray, List.set_cons_zero, List.set_cons_succ]
                  refine wpAnyH_take (i := 19) (oi := ?o19x20) (v := ?v19x20) ?hi19x20 (by kernel_rfl) (by kernel_rfl) (by kernel_rfl) ?hq19x20 (Or.inl ⟨?hw19x20, ?hy19x20⟩) (by assumption) ?_
                  case hi19x20 => simp only [List.getElem?_toArray, List.getElem?_cons_succ, List.getElem?_cons_zero]; rfl
                  case hq19x20 => exact fun _ _ _ h => h
                  case hw19x20 => rfl
                  case hy19x20 => (intro w hSw; (try dsimp only at hSw); go_simp; try with_reducible rfl)
                  try simp only [Act.put, List.setIfInBounds_toArray, List.set_cons_zero, List.set_cons_succ]
                  refine wpAnyH_take (i := 20) (oi := ?o20x21) (v := ?v20x21) ?hi20x21 (by kernel_rfl) (by kernel_rfl) (by kernel_rfl) ?hq20x21 (Or.inl ⟨?hw20x21, ?hy20x21⟩) (by assumption) ?_
                  case hi20x21 => simp only [List.getElem?_toArray, List.getElem?_cons_succ, List.getElem?_cons_zero]; rfl
                  case hq20x21 => exact fun _ _ _ h => h
                  case hw20x21 => rfl
                  case hy20x21 => (intro w hSw; (try dsimp only at hSw); go_simp; try with_reducible rfl)
                  try simp only [Act.put, List.setIfInBounds_toArray, List.set_cons_zero, List.set_cons_succ]
                  refine wpAnyH_ready (rs := [21]) (by kernel_rfl) (by simp) (AllReadyH.cons (o := ?o21x22) ?hi21x22 (fun K hK => ?step21x22) AllReadyH.nil)
                  case hi21x22 => simp only [List.getElem?_toArray, List.getElem?_cons_succ, List.getElem?_cons_zero]; rfl
                  case step21x22 =>
                    go_simp
                    refine hK.out _ _ (by repeat (first | exact HC | exact HC.size | exact Nat.le_refl _ | exact Nat.le_add_right _ _ | refine Below.setCell ?_ ?_ _ | refine Below.alloc ?_ ?_ _ | refine Below.drew ?_ | (simp; done) | (have := HC.size; simp; omega))) (fun hHeld => ?_)
                    clear hK K
                    try simp only [Act.put, List.setIfInBounds_toArray, List.set_cons_zero, List.set_cons_succ]
                    refine wpAnyH_ready (rs := [22]) (by kernel_rfl) (by simp) (AllReadyH.cons (o := ?o22x23) ?hi22x23 (fun K hK => ?step22x23) AllReadyH.nil)
                    case hi22x23 => simp only [List.getElem?_toArray, List.getElem?_cons_succ, List.getElem?_cons_zero]; rfl
                    case step22x23 =>
                      go_simp
                      refine hK.out _ _ (by repeat (first | exact HC | exact HC.size | exact Nat.le_refl _ | exact Nat.le_add_right _ _ | refine Below.setCell ?_ ?_ _ | refine Below.alloc ?_ ?_ _ | refine Below.drew ?_ | (simp; done) | (have := HC.size; simp; omega))) (fun hHeld => ?_)
                      clear hK K
                      try simp only [Act.put, List.setIfInBounds_toArray, List.set_cons_zero, List.set_cons_succ]
                      refine wpAnyH_take (i := 23) (oi := ?o23x24) (v := ?v23x24) ?hi23x24 (by kernel_rfl) (by kernel_rfl) (by kernel_rfl) ?hq23x24 (Or.inl ⟨?hw23x24, ?hy23x24⟩) (by assumption) ?_
                      case hi23x24 => simp only [List.getElem?_toArray, List.getElem?_cons_succ, List.getElem?_cons_zero]; rfl
                      case hq23x24 => exact fun _ _ _ h => h
                      case hw23x24 => rfl
                      case hy23x24 => (intro w hSw; (try dsimp only at hSw); go_simp; try with_reducible rfl)
                      try simp only [Act.put, List.setIfInBounds_toArray, List.set_cons_zero, List.set_cons_succ]
                      refine wpAnyH_done (by kernel_rfl) ?_ 0
                      go_wp2
                      go_ret
                      exact ⟨rfl, blH hBw (by repeat (first | exact HC | exact HC.size | exact Nat.le_refl _ | exact Nat.le_add_right _ _ | refine Below.setCell ?_ ?_ _ | refine Below.alloc ?_ ?_ _ | refine Below.drew ?_ | (simp; done) | (have := HC.size; simp; omega)))⟩
                case step21x18 =>
                  go_simp
                  refine hK.out _ _ (by repeat (first | exact HC | exact HC.size | exact Nat.le_refl _ | exact Nat.le_add_right _ _ | refine Below.setCell ?_ ?_ _ | refine Below.alloc ?_ ?_ _ | refine Below.drew ?_ | (simp; done) | (have := HC.size; simp; omega))) (fun hHeld => ?_)
                  clear hK K
                  try simp only [Act.put, List.setIfInBounds_toArray, List.set_cons_zero, List.set_cons_succ]
                  refine wpAnyH_ready (rs := [17]) (by kernel_rfl) (by simp) (AllReadyH.cons (o := ?o17x25) ?hi17x25 (fun K hK => ?step17x25) AllReadyH.nil)
                  case hi17x25 => simp only [List.getElem?_toArray, List.getElem?_cons_succ, List.getElem?_cons_zero]; rfl
                  case step17x25 =>
                    go_simp
                    go_at_call 12
                    refine (HD.out _ ?_ _ ?_).mono ?_
                    · exact blH hB3 (by repeat (first | exact HC | exact HC.size | exact Nat.le_refl _ | exact Nat.le_add_right _ _ | refine Below.setCell ?_ ?_ _ | refine Below.alloc ?_ ?_ _ | refine Below.drew ?_ | (simp; done) | (have := HC.size; simp; omega)))
                    · first | exact hbad | simpa using hbad
                    rintro r w' ⟨rfl, hb1⟩
                    have bX := (hb1.block (w3.heap.size + 1) (by first | (simp; done) | (simp; omega))).trans fB
                    have z0 := cells_cell (i := 0) bX (v := .int .i64 0) rfl
                    have y0 := cells_free (i := 0) bX
                    have z1 := cells_cell (i := 1) bX (v := .int .i64 0) rfl
                    have y1 := cells_free (i := 1) bX
                    have z2 := cells_cell (i := 2) bX (v := .int .i64 0) rfl
                    have y2 := cells_free (i := 2) bX
                    have z3 := cells_cell (i := 3) bX (v := .int .i64 0) rfl
                    have y3 := cells_free (i := 3) bX
                    have HC := (show Below w3.heap.size w3 w' from by refine blH ?_ hb1; repeat (first | exact HC | exact HC.size | exact Nat.le_refl _ | exact Nat.le_add_right _ _ | refine Below.setCell ?_ ?_ _ | refine Below.alloc ?_ ?_ _ | refine Below.drew ?_ | (simp; done) | (have := HC.size; simp; omega)))
                    refine hK.out _ _ (by repeat (first | exact HC | exact HC.size | exact Nat.le_refl _ | exact Nat.le_add_right _ _ | refine Below.setCell ?_ ?_ _ | refine Below.alloc ?_ ?_ _ | refine Below.drew ?_ | (simp; done) | (have := HC.size; simp; omega))) (fun hHeld => ?_)
                    clear hK K
                    try simp only [Act.put, List.setIfInBounds_toArray, List.set_cons_zero, List.set_cons_succ]
                    refine wpAnyH_take (i := 18) (oi := ?o18x26) (v := ?v18x26) ?hi18x26 (by kernel_rfl) (by kernel_rfl) (by kernel_rfl) ?hq18x26 (Or.inl ⟨?hw18x26, ?hy18x26⟩) (by assumption) ?_
                    case hi18x26 => simp only [List.getElem?_toArray, List.getElem?_cons_succ, List.getElem?_cons_zero]; rfl
                    case hq18x26 => exact fun _ _ _ h => h
                    case hw18x26 => rfl
                    case hy18x26 => (intro w hSw; (try dsimp only at hSw); go_simp; try with_reducible rfl)
                    try simp only [Act.put, List.setIfInBounds_toArray, List.set_cons_zero, List.set_cons_succ]
                    refine wpAnyH_take (i := 19) (oi := ?o19x27) (v := ?v19x27) ?hi19x27 (by kernel_rfl) (by kernel_rfl) (by kernel_rfl) ?hq19x27 (Or.inl ⟨?hw19x27, ?hy19x27⟩) (by assumption) ?_
                    case hi19x27 => simp only [List.getElem?_toArray, List.getElem?_cons_succ, List.getElem?_cons_zero]; rfl
                    case hq19x27 => exact fun _ _ _ h => h
                    case hw19x27 => rfl
                    case hy19x27 => (intro w hSw; (try dsimp only at hSw); go_simp; try with_reducible rfl)
                    try simp only [Act.put, List.setIfInBounds_toArray, List.set_cons_zero, List.set_cons_succ]
                    refine wpAnyH_take (i := 20) (oi := ?o20x28) (v := ?v20x28) ?hi20x28 (by kernel_rfl) (by kernel_rfl) (by kernel_rfl) ?hq20x28 (Or.inl ⟨?hw20x28, ?hy20x28⟩) (by assumption) ?_
                    case hi20x28 => simp only [List.getElem?_toArray, List.getElem?_cons_succ, List.getElem?_cons_zero]; rfl
                    case hq20x28 => exact fun _ _ _ h => h
                    case hw20x28 => rfl
                    case hy20x28 => (intro w hSw; (try dsimp only at hSw); go_simp; try with_reducible rfl)
                    try simp only [Act.put, List.setIfInBounds_toArray, List.set_cons_zero, List.set_cons_succ]
                    refine wpAnyH_ready (rs := [22]) (by kernel_rfl) (by simp) (AllReadyH.cons (o := ?o22x29) ?hi22x29 (fun K hK => ?step22x29) AllReadyH.nil)
                    case hi22x29 => simp only [List.getElem?_toArray, List.getElem?_cons_succ, List.getElem?_cons_zero]; rfl
                    case step22x29 =>
                      go_simp
                      refine hK.out _ _ (by repeat (first | exact HC | exact HC.size | exact Nat.le_refl _ | exact Nat.le_add_right _ _ | refine Below.setCell ?_ ?_ _ | refine Below.alloc ?_ ?_ _ | refine Below.drew ?_ | (simp; done) | (have := HC.size; simp; omega))) (fun hHeld => ?_)
                      clear hK K
                      try simp only [Act.put, List.setIfInBounds_toArray, List.set_cons_zero, List.set_cons_succ]
                      refine wpAnyH_take (i := 23) (oi := ?o23x30) (v := ?v23x30) ?hi23x30 (by kernel_rfl) (by kernel_rfl) (by kernel_rfl) ?hq23x30 (Or.inl ⟨?hw23x30, ?hy23x30⟩) (by assumption) ?_
                      case hi23x30 => simp only [List.getElem?_toArray, List.getElem?_cons_succ, List.getElem?_cons_zero]; rfl
                      case hq23x30 => exact fun _ _ _ h => h
                      case hw23x30 => rfl
                      case hy23x30 => (intro w hSw; (try dsimp only at hSw); go_simp; try with_reducible rfl)
                      try simp only [Act.put, List.setIfInBounds_toArray, List.set_cons_zero, List.set_cons_succ]
                      refine wpAnyH_done (by kernel_rfl) ?_ 0
                      go_wp2
                      go_ret
                      exact ⟨rfl, blH hBw (by repeat (first | exact HC | exact HC.size | exact Nat.le_refl _ | exact Nat.le_add_right _ _ | refine Below.setCell ?_ ?_ _ | refine Below.alloc ?_ ?_ _ | refine Below.drew ?_ | (simp; done) | (have := HC.size; simp; omega)))⟩
              case step21x15 =>
                go_simp
                refine hK.out _ _ (by repeat (first | exact HC | exact HC.size | exact Nat.le_refl _ | exact Nat.le_add_right _ _ | refine Below.setCell ?_ ?_ _ | refine Below.alloc ?_ ?_ _ | refine Below.drew ?_ | (simp; done) | (have := HC.size; simp; omega))) (fun hHeld => ?_)
                clear hK K
                try simp only [Act.put, List.setIfInBounds_toArray, List.set_cons_zero, List.set_cons_succ]
                refine wpAnyH_ready (rs := [10]) (by kernel_rfl) (by simp) (AllReadyH.cons (o := ?o10x31) ?hi10x31 (fun K hK => ?step10x31) AllReadyH.nil)
                case hi10x31 => simp only [List.getElem?_toArray, List.getElem?_cons_succ, List.getElem?_cons_zero]; rfl
                case step10x31 =>
                  go_simp
                  refine hK.out _ _ (by repeat (first | exact HC | exact HC.size | exact Nat.le_refl _ | exact Nat.le_add_right _ _ | refine Below.setCell ?_ ?_ _ | refine Below.alloc ?_ ?_ _ | refine Below.drew ?_ | (simp; done) | (have := HC.size; simp; omega))) (fun hHeld => ?_)
                  clear hK K
                  try simp only [Act.put, List.setIfInBounds_toArray, List.set_cons_zero, List.set_cons_succ]
                  refine wpAnyH_take (i := 11) (oi := ?o11x32) (v := ?v11x32) ?hi11x32 (by kernel_rfl) (by kernel_rfl) (by kernel_rfl) ?hq11x32 (Or.inl ⟨?hw11x32, ?hy11x32⟩) (by assumption) ?_
                  case hi11x32 => simp only [List.getElem?_toArray, List.getElem?_cons_succ, List.getElem?_cons_zero]; rfl
                  case hq11x32 => exact fun _ _ _ h => h
                  case hw11x32 => rfl
                  case hy11x32 => (intro w hSw; (try dsimp only at hSw); go_simp; try with_reducible rfl)
                  try simp only [Act.put, List.setIfInBounds_toArray, List.set_cons_zero, List.set_cons_succ]
                  refine wpAnyH_take (i := 16) (oi := ?o16x33) (v := ?v16x33) ?hi16x33 (by kernel_rfl) (by kernel_rfl) (by kernel_rfl) ?hq16x33 (Or.inl ⟨?hw16x33, ?hy16x33⟩) (by assumption) ?_
                  case hi16x33 => simp only [List.getElem?_toArray, List.getElem?_cons_succ, List.getElem?_cons_zero]; rfl
                  case hq16x33 => exact fun _ _ _ h => h
                  case hw16x33 => rfl
                  case hy16x33 => (intro w hSw; (try dsimp only at hSw); go_simp; try with_reducible rfl)
                  try simp only [Act.put, List.setIfInBounds_toArray, List.set_cons_zero, List.set_cons_succ]
                  refine wpAnyH_ready (rs := [17]) (by kernel_rfl) (by simp) (AllReadyH.cons (o := ?o17x34) ?hi17x34 (fun K hK => ?step17x34) AllReadyH.nil)
                  case hi17x34 => simp only [List.getElem?_toArray, List.getElem?_cons_succ, List.getElem?_cons_zero]; rfl
                  case step17x34 =>
                    go_simp
                    go_at_call 12
                    refine (HD.out _ ?_ _ ?_).mono ?_
                    · exact blH hB3 (by repeat (first | exact HC | exact HC.size | exact Nat.le_refl _ | exact Nat.le_add_right _ _ | refine Below.setCell ?_ ?_ _ | refine Below.alloc ?_ ?_ _ | refine Below.drew ?_ | (simp; done) | (have := HC.size; simp; omega)))
                    · first | exact hbad | simpa using hbad
                    rintro r w' ⟨rfl, hb1⟩
                    have bX := (hb1.block (w3.heap.size + 1) (by first | (simp; done) | (simp; omega))).trans fB
                    have z0 := cells_cell (i := 0) bX (v := .int .i64 0) rfl
                    have y0 := cells_free (i := 0) bX
                    have z1 := cells_cell (i := 1) bX (v := .int .i64 0) rfl
                    have y1 := cells_free (i := 1) bX
                    have z2 := cells_cell (i := 2) bX (v := .int .i64 0) rfl
                    have y2 := cells_free (i := 2) bX
                    have z3 := cells_cell (i := 3) bX (v := .int .i64 0) rfl
                    have y3 := cells_free (i := 3) bX
                    have HC := (show Below w3.heap.size w3 w' from by refine blH ?_ hb1; repeat (first | exact HC | exact HC.size | exact Nat.le_refl _ | exact Nat.le_add_right _ _ | refine Below.setCell ?_ ?_ _ | refine Below.alloc ?_ ?_ _ | refine Below.drew ?_ | (simp; done) | (have := HC.size; simp; omega)))
                    refine hK.out _ _ (by repeat (first | exact HC | exact HC.size | exact Nat.le_refl _ | exact Nat.le_add_right _ _ | refine Below.setCell ?_ ?_ _ | refine Below.alloc ?_ ?_ _ | refine Below.drew ?_ | (simp; done) | (have := HC.size; simp; omega))) (fun hHeld => ?_)
                    clear hK K
                    try simp only [Act.put, List.setIfInBounds_toArray, List.set_cons_zero, List.set_cons_succ]
                    refine wpAnyH_take (i := 18) (oi := ?o18x35) (v := ?v18x35) ?hi18x35 (by kernel_rfl) (by kernel_rfl) (by kernel_rfl) ?hq18x35 (Or.inl ⟨?hw18x35, ?hy18x35⟩) (by assumption) ?_
                    case hi18x35 => simp only [List.getElem?_toArray, List.getElem?_cons_succ, List.getElem?_cons_zero]; rfl
                    case hq18x35 => exact fun _ _ _ h => h
                    case hw18x35 => rfl
                    case hy18x35 => (intro w hSw; (try dsimp only at hSw); go_simp; try with_reducible rfl)
                    try simp only [Act.put, List.setIfInBounds_toArray, List.set_cons_zero, List.set_cons_succ]
                    refine wpAnyH_take (i := 19) (oi := ?o19x36) (v := ?v19x36) ?hi19x36 (by kernel_rfl) (by kernel_rfl) (by kernel_rfl) ?hq19x36 (Or.inl ⟨?hw19x36, ?hy19x36⟩) (by assumption) ?_
                    case hi19x36 => simp only [List.getElem?_toArray, List.getElem?_cons_succ, List.getElem?_cons_zero]; rfl
                    case hq19x36 => exact fun _ _ _ h => h
                    case hw19x36 => rfl
                    case hy19x36 => (intro w hSw; (try dsimp only at hSw); go_simp; try with_reducible rfl)
                    try simp only [Act.put, List.setIfInBounds_toArray, List.set_cons_zero, List.set_cons_succ]
                    refine wpAnyH_take (i := 20) (oi := ?o20x37) (v := ?v20x37) ?hi20x37 (by kernel_rfl) (by kernel_rfl) (by kernel_rfl) ?hq20x37 (Or.inl ⟨?hw20x37, ?hy20x37⟩) (by assumption) ?_
                    case hi20x37 => simp only [List.getElem?_toArray, List.getElem?_cons_succ, List.getElem?_cons_zero]; rfl
                    case hq20x37 => exact fun _ _ _ h => h
                    case hw20x37 => rfl
                    case hy20x37 => (intro w hSw; (try dsimp only at hSw); go_simp; try with_reducible rfl)
                    try simp only [Act.put, List.setIfInBounds_toArray, List.set_cons_zero, List.set_cons_succ]
                    refine wpAnyH_ready (rs := [22]) (by kernel_rfl) (by simp) (AllReadyH.cons (o := ?o22x38) ?hi22x38 (fun K hK => ?step22x38) AllReadyH.nil)
                    case hi22x38 => simp only [List.getElem?_toArray, List.getElem?_cons_succ, List.getElem?_cons_zero]; rfl
                    case step22x38 =>
                      go_simp
                      refine hK.out _ _ (by repeat (first | exact HC | exact HC.size | exact Nat.le_refl _ | exact Nat.le_add_right _ _ | refine Below.setCell ?_ ?_ _ | refine Below.alloc ?_ ?_ _ | refine Below.drew ?_ | (simp; done) | (have := HC.size; simp; omega))) (fun hHeld => ?_)
                      clear hK K
                      try simp only [Act.put, List.setIfInBounds_toArray, List.set_cons_zero, List.set_cons_succ]
                      refine wpAnyH_take (i := 23) (oi := ?o23x39) (v := ?v23x39) ?hi23x39 (by kernel_rfl) (by kernel_rfl) (by kernel_rfl) ?hq23x39 (Or.inl ⟨?hw23x39, ?hy23x39⟩) (by assumption) ?_
                      case hi23x39 => simp only [List.getElem?_toArray, List.getElem?_cons_succ, List.getElem?_cons_zero]; rfl
                      case hq23x39 => exact fun _ _ _ h => h
                      case hw23x39 => rfl
                      case hy23x39 => (intro w hSw; (try dsimp only at hSw); go_simp; try with_reducible rfl)
                      try simp only [Act.put, List.setIfInBounds_toArray, List.set_cons_zero, List.set_cons_succ]
                      refine wpAnyH_done (by kernel_rfl) ?_ 0
                      go_wp2
                      go_ret
                      exact ⟨rfl, blH hBw (by repeat (first | exact HC | exact HC.size | exact Nat.le_refl _ | exact Nat.le_add_right _ _ | refine Below.setCell ?_ ?_ _ | refine Below.alloc ?_ ?_ _ | refine Below.drew ?_ | (simp; done) | (have := HC.size; simp; omega)))⟩
            case step21x14 =>
              go_simp
              refine hK.out _ _ (by repeat (first | exact HC | exact HC.size | exact Nat.le_refl _ | exact Nat.le_add_right _ _ | refine Below.setCell ?_ ?_ _ | refine Below.alloc ?_ ?_ _ | refine Below.drew ?_ | (simp; done) | (have := HC.size; simp; omega))) (fun hHeld => ?_)
              clear hK K
              try simp only [Act.put, List.setIfInBounds_toArray, List.set_cons_zero, List.set_cons_succ]
              refine wpAnyH_ready (rs := [9]) (by kernel_rfl) (by simp) (AllReadyH.cons (o := ?o9x40) ?hi9x40 (fun K hK => ?step9x40) AllReadyH.nil)
              case hi9x40 => simp only [List.getElem?_toArray, List.getElem?_cons_succ, List.getElem?_cons_zero]; rfl
              case step9x40 =>
                go_simp
                refine hK.out _ _ (by repeat (first | exact HC | exact HC.size | exact Nat.le_refl _ | exact Nat.le_add_right _ _ | refine Below.setCell ?_ ?_ _ | refine Below.alloc ?_ ?_ _ | refine Below.drew ?_ | (simp; done) | (have := HC.size; simp; omega))) (fun hHeld => ?_)
                clear hK K
                try simp only [Act.put, List.setIfInBounds_toArray, List.set_cons_zero, List.set_cons_succ]
                refine wpAnyH_ready (rs := [10]) (by kernel_rfl) (by simp) (AllReadyH.cons (o := ?o10x41) ?hi10x41 (fun K hK => ?step10x41) AllReadyH.nil)
                case hi10x41 => simp only [List.getElem?_toArray, List.getElem?_cons_succ, List.getElem?_cons_zero]; rfl
                case step10x41 =>
                  go_simp
                  refine hK.out _ _ (by repeat (first | exact HC | exact HC.size | exact Nat.le_refl _ | exact Nat.le_add_right _ _ | refine Below.setCell ?_ ?_ _ | refine Below.alloc ?_ ?_ _ | refine Below.drew ?_ | (simp; done) | (have := HC.size; simp; omega))) (fun hHeld => ?_)
                  clear hK K
                  try simp only [Act.put, List.setIfInBounds_toArray, List.set_cons_zero, List.set_cons_succ]
                  refine wpAnyH_take (i := 11) (oi := ?o11x42) (v := ?v11x42) ?hi11x42 (by kernel_rfl) (by kernel_rfl) (by kernel_rfl) ?hq11x42 (Or.inl ⟨?hw11x42, ?hy11x42⟩) (by assumption) ?_
                  case hi11x42 => simp only [List.getElem?_toArray, List.getElem?_cons_succ, List.getElem?_cons_zero]; rfl
                  case hq11x42 => exact fun _ _ _ h => h
                  case hw11x42 => rfl
                  case hy11x42 => (intro w hSw; (try dsimp only at hSw); go_simp; try with_reducible rfl)
                  try simp only [Act.put, List.setIfInBounds_toArray, List.set_cons_zero, List.set_cons_succ]
                  refine wpAnyH_take (i := 16) (oi := ?o16x43) (v := ?v16x43) ?hi16x43 (by kernel_rfl) (by kernel_rfl) (by kernel_rfl) ?hq16x43 (Or.inl ⟨?hw16x43, ?hy16x43⟩) (by assumption) ?_
                  case hi16x43 => simp only [List.getElem?_toArray, List.getElem?_cons_succ, List.getElem?_cons_zero]; rfl
                  case hq16x43 => exact fun _ _ _ h => h
                  case hw16x43 => rfl
                  case hy16x43 => (intro w hSw; (try dsimp only at hSw); go_simp; try with_reducible rfl)
                  try simp only [Act.put, List.setIfInBounds_toArray, List.set_cons_zero, List.set_cons_succ]
                  refine wpAnyH_ready (rs := [17]) (by kernel_rfl) (by simp) (AllReadyH.cons (o := ?o17x44) ?hi17x44 (fun K hK => ?step17x44) AllReadyH.nil)
                  case hi17x44 => simp only [List.getElem?_toArray, List.getElem?_cons_succ, List.getElem?_cons_zero]; rfl
                  case step17x44 =>
                    go_simp
                    go_at_call 12
                    refine (HD.out _ ?_ _ ?_).mono ?_
                    · exact blH hB3 (by repeat (first | exact HC | exact HC.size | exact Nat.le_refl _ | exact Nat.le_add_right _ _ | refine Below.setCell ?_ ?_ _ | refine Below.alloc ?_ ?_ _ | refine Below.drew ?_ | (simp; done) | (have := HC.size; simp; omega)))
                    · first | exact hbad | simpa using hbad
                    rintro r w' ⟨rfl, hb1⟩
                    have bX := (hb1.block w3.heap.size (by first | (simp; done) | (simp; omega))).trans fA
                    have z0 := cells_cell (i := 0) bX (v := .int .i64 0) rfl
                    have y0 := cells_free (i := 0) bX
                    have z1 := cells_cell (i := 1) bX (v := .int .i64 0) rfl
                    have y1 := cells_free (i := 1) bX
                    have z2 := cells_cell (i := 2) bX (v := .int .i64 0) rfl
                    have y2 := cells_free (i := 2) bX
                    have z3 := cells_cell (i := 3) bX (v := .int .i64 0) rfl
                    have y3 := cells_free (i := 3) bX
                    have HC := (show Below w3.heap.size w3 w' from by refine blH ?_ hb1; repeat (first | exact HC | exact HC.size | exact Nat.le_refl _ | exact Nat.le_add_right _ _ | refine Below.setCell ?_ ?_ _ | refine Below.alloc ?_ ?_ _ | refine Below.drew ?_ | (simp; done) | (have := HC.size; simp; omega)))
                    refine hK.out _ _ (by repeat (first | exact HC | exact HC.size | exact Nat.le_refl _ | exact Nat.le_add_right _ _ | refine Below.setCell ?_ ?_ _ | refine Below.alloc ?_ ?_ _ | refine Below.drew ?_ | (simp; done) | (have := HC.size; simp; omega))) (fun hHeld => ?_)
                    clear hK K
                    try simp only [Act.put, List.setIfInBounds_toArray, List.set_cons_zero, List.set_cons_succ]
                    refine wpAnyH_take (i := 18) (oi := ?o18x45) (v := ?v18x45) ?hi18x45 (by kernel_rfl) (by kernel_rfl) (by kernel_rfl) ?hq18x45 (Or.inl ⟨?hw18x45, ?hy18x45⟩) (by assumption) ?_
                    case hi18x45 => simp only [List.getElem?_toArray, List.getElem?_cons_succ, List.getElem?_cons_zero]; rfl
                    case hq18x45 => exact fun _ _ _ h => h
                    case hw18x45 => rfl
                    case hy18x45 => (intro w hSw; (try dsimp only at hSw); go_simp; try with_reducible rfl)
                    try simp only [Act.put, List.setIfInBounds_toArray, List.set_cons_zero, List.set_cons_succ]
                    refine wpAnyH_take (i := 19) (oi := ?o19x46) (v := ?v19x46) ?hi19x46 (by kernel_rfl) (by kernel_rfl) (by kernel_rfl) ?hq19x46 (Or.inl ⟨?hw19x46, ?hy19x46⟩) (by assumption) ?_
                    case hi19x46 => simp only [List.getElem?_toArray, List.getElem?_cons_succ, List.getElem?_cons_zero]; rfl
                    case hq19x46 => exact fun _ _ _ h => h
                    case hw19x46 => rfl
                    case hy19x46 => (intro w hSw; (try dsimp only at hSw); go_simp; try with_reducible rfl)
                    try simp only [Act.put, List.setIfInBounds_toArray, List.set_cons_zero, List.set_cons_succ]
                    refine wpAnyH_take (i := 20) (oi := ?o20x47) (v := ?v20x47) ?hi20x47 (by kernel_rfl) (by kernel_rfl) (by kernel_rfl) ?hq20x47 (Or.inl ⟨?hw20x47, ?hy20x47⟩) (by assumption) ?_
                    case hi20x47 => simp only [List.getElem?_toArray, List.getElem?_cons_succ, List.getElem?_cons_zero]; rfl
                    case hq20x47 => exact fun _ _ _ h => h
                    case hw20x47 => rfl
                    case hy20x47 => (intro w hSw; (try dsimp only at hSw); go_simp; try with_reducible rfl)
                    try simp only [Act.put, List.setIfInBounds_toArray, List.set_cons_zero, List.set_cons_succ]
                    refine wpAnyH_ready (rs := [22]) (by kernel_rfl) (by simp) (AllReadyH.cons (o := ?o22x48) ?hi22x48 (fun K hK => ?step22x48) AllReadyH.nil)
                    case hi22x48 => simp only [List.getElem?_toArray, List.getElem?_cons_succ, List.getElem?_cons_zero]; rfl
                    case step22x48 =>
                      go_simp
                      refine hK.out _ _ (by repeat (first | exact HC | exact HC.size | exact Nat.le_refl _ | exact Nat.le_add_right _ _ | refine Below.setCell ?_ ?_ _ | refine Below.alloc ?_ ?_ _ | refine Below.drew ?_ | (simp; done) | (have := HC.size; simp; omega))) (fun hHeld => ?_)
                      clear hK K
                      try simp only [Act.put, List.setIfInBounds_toArray, List.set_cons_zero, List.set_cons_succ]
                      refine wpAnyH_take (i := 23) (oi := ?o23x49) (v := ?v23x49) ?hi23x49 (by kernel_rfl) (by kernel_rfl) (by kernel_rfl) ?hq23x49 (Or.inl ⟨?hw23x49, ?hy23x49⟩) (by assumption) ?_
                      case hi23x49 => simp only [List.getElem?_toArray, List.getElem?_cons_succ, List.getElem?_cons_zero]; rfl
                      case hq23x49 => exact fun _ _ _ h => h
                      case hw23x49 => rfl
                      case hy23x49 => (intro w hSw; (try dsimp only at hSw); go_simp; try with_reducible rfl)
                      try simp only [Act.put, List.setIfInBounds_toArray, List.set_cons_zero, List.set_cons_succ]
                      refine wpAnyH_done (by kernel_rfl) ?_ 0
                      go_wp2
                      go_ret
                      exact ⟨rfl, blH hBw (by repeat (first | exact HC | exact HC.size | exact Nat.le_refl _ | exact Nat.le_add_right _ _ | refine Below.setCell ?_ ?_ _ | refine Below.alloc ?_ ?_ _ | refine Below.drew ?_ | (simp; done) | (have := HC.size; simp; omega)))⟩
end Go.Proofs.YtdhligapadblgaaDoor

namespace Go.Proofs.YtdhligapadblgaaDoor.lawHeadByte
open Go.ChangeShapes Go.WideShapes Go.ChangeAt Go.RowKit
set_option maxRecDepth 100000 in
theorem told (H : Type) (enc : TypeId × Value → H) (W : World) (base : Nat) (args : Array Value) (ds gs : List (DataW H)) (before : List MemPlace)
    (hval : ∀ (j : Nat) t v, Tryd.f4.params[j]? = some t → args[j]? = some v → Value.okWide Tryd.prog W .any base t v)
    (hW : DataW.Whole enc Tryd.prog Tryd.f4.params.toList Rows.headByteSpec.vars false W args.toList ds gs before) (hL : laidMetH Tryd.prog laidL W) :
    Calls Tryd.prog 4 args W fun e W' => ∃ v, e = .returned v ∧ Rows.headByteSpec.post enc Tryd.prog Tryd.f4 false true false false W args v W' := by
  have hW' := hW
  obtain ⟨p, q, hA0, hV, rfl, hfz, hnd⟩ := hW
  have hA : DataW.TrodAll enc Tryd.prog W 0 (fun _ => true) true Tryd.f4.params.toList args.toList ds p := hA0
  rw [Tryd.params4] at hA hval
  obtain ⟨v0, vs0, d0, ds0, p0, q0, hargs, rfl, rfl, h0, r0⟩ := trodAll_cons hA
  obtain ⟨v1, vs1, d1, ds1, p1, q1, rfl, rfl, rfl, h1, r1⟩ := trodAll_cons r0
  obtain ⟨v2, vs2, d2, ds2, p2, q2, rfl, rfl, rfl, h2, r2⟩ := trodAll_cons r1
  obtain ⟨rfl, rfl, rfl⟩ := trodAll_nil r2
  obtain rfl : args = #[v0, v1, v2] := by cases args; simp_all
  obtain ⟨rfl, rfl⟩ := trodVars_none hV
  have k0 := h0
  have k1 := h1
  have k2 := h2
  obtain ⟨k0x, l0x, c0x, e0x, rfl⟩ := mark_open (hval 0 23 v0 rfl rfl) h0
  obtain ⟨x1, rfl, rfl, rfl, wx1⟩ := open_int Tryd.underlying3 (hval 1 3 v1 rfl rfl) h1
  obtain ⟨x2, rfl, rfl, rfl, wx2⟩ := open_int Tryd.underlying3 (hval 2 3 v2 rfl rfl) h2
  clear hA0
  simp only [List.append_nil] at hW'
  obtain ⟨E, hGl⟩ := glob_of_laid hL
  refine (byte_law hGl x1 x2).mono fun e W' ⟨he, hb⟩ => ?_
  subst he
  have hlt := hW'.lt
  have harg0 := Below.trod laidOut (by kernel_rfl) (of_decide_eq_true (by kernel_rfl)) k0 hb (fun y hy => by first | (cases hy; done) | (simpa using hlt y (by simp [hy])))
  have harg1 := Below.trod laidOut (by kernel_rfl) (of_decide_eq_true (by kernel_rfl)) k1 hb (fun y hy => by first | (cases hy; done) | (simpa using hlt y (by simp [hy])))
  have harg2 := Below.trod laidOut (by kernel_rfl) (of_decide_eq_true (by kernel_rfl)) k2 hb (fun y hy => by first | (cases hy; done) | (simpa using hlt y (by simp [hy])))
  exact ⟨_, rfl, _, _, _, [], _, [], hW', trodAll_cons_mk (shut_bool Tryd.underlying4 _) trodAll_mk0, (trodAll_cons_mk harg0 (trodAll_cons_mk harg1 (trodAll_cons_mk harg2 trodAll_mk0))), rfl, hb.frame _, fun h => by cases h⟩

set_option maxRecDepth 100000 in
theorem lifted (os : Os) (started : os.Started) (H : Type) (enc : TypeId × Value → H) :
    ReturnsInHanded {} Tryd.checked os 4 .any (fun w args => (Rows.headByteSpec.pre enc Tryd.prog Tryd.f4 [] false w args ∧ laidMetH Tryd.prog laidL w) ∧ sizedMet enc Tryd.prog Tryd.f4 (OpenSpec.ofChange Rows.headByteSpec) false w args)
      (Rows.headByteSpec.post enc Tryd.prog Tryd.f4 false true false false) := by
  refine returnsInHanded_of_change_and (C := Tryd.checked) (X := fun w _ => laidMetH Tryd.prog laidL w) (fun _ _ _ hh h => h.of_heap hh) own started (by kernel_rfl) Tryd.func4
    (ChangeSpec.witness_shaped (enc := enc) (C := Tryd.checked) (os := os) (X := fun w _ => laidMetH Tryd.prog laidL w) false (World.doorLaid Tryd.prog 189 os) #[.agg #[.int .i64 0, .int .i64 0, .int .i64 0, .int .i64 0], .int .i64 0, .int .i64 0] 8 rfl (World.shaped_of_RefB (by kernel_rfl) (by kernel_rfl)) (by kernel_rfl) (by kernel_rfl) (by kernel_rfl) (door_met os _)) ?_
  intro W base args ds gs before hval hW _ _ hL _
  exact told H enc W base args ds gs before hval hW hL

theorem said : Rows.HeadByteSaid :=
  OpenClaim.holds_of_wide 4 Tryd.f4 rfl rfl rfl rfl rfl rfl rfl ⟨rfl, rfl, rfl, rfl, rfl⟩ rfl rfl rfl rfl rfl (by kernel_rfl) Tryd.func4 (by kernel_rfl)
    (of_decide_eq_true (by kernel_rfl)) (by unfold Func.isWrapper; first | (rw [if_pos (by decide +kernel)]; kernel_rfl) | (rw [if_neg (by decide +kernel)]; exact ⟨rfl, rfl⟩))
    (fun os started H enc _ => lifted os started H enc)

theorem plain (f : FuncId) (fn : Func) (hf : Tryd.pinned.checked.prog.funcNamed "selion/selionlaw06.HeadByte" = some f) (hfn : Tryd.pinned.checked.prog.funcs[f]? = some fn) :
    true = Tryd.pinned.checked.prog.looks [] ∧ ∀ (j : Nat) t, fn.params[j]? = some t → Tryd.pinned.checked.prog.wantsStandIn t = false := by
  obtain rfl : f = 4 := Option.some.inj ((show Tryd.prog.funcNamed "selion/selionlaw06.HeadByte" = some 4 by kernel_rfl).symm.trans hf) |>.symm
  obtain rfl : fn = Tryd.f4 := (Option.some.inj (Tryd.func4.symm.trans hfn)).symm
  refine ⟨by kernel_rfl, fun j t ht => ?_⟩
  have hm : t ∈ Tryd.f4.params := Array.mem_of_getElem? ht
  rw [Tryd.params4] at hm
  have hm' : t = 23 ∨ t = 3 := by simpa using hm
  rcases hm' with rfl | rfl
  · exact (show Tryd.prog.wantsStandIn 23 = false by kernel_rfl)
  · exact (show Tryd.prog.wantsStandIn 3 = false by kernel_rfl)

/-- THE CARD. -/
theorem card : Rows.HeadByteCardSaid :=
  Claim7.holds_tied_plain_at .later [] _ _ _ _ said (fun _ h => by cases h) (by kernel_rfl) (fun _ h => by cases h) headByte_row_tie rfl ⟨rfl, rfl⟩ (by kernel_rfl) rfl plain (by kernel_rfl)
end Go.Proofs.YtdhligapadblgaaDoor.lawHeadByte

/- Layer head: Encode, for all heads; Decode. -/
import Derived.Test.YtdhligapadblgaaDoorK4
namespace Go.Proofs.YtdhligapadblgaaDoor
open Go Go.RowKit Go.Shelf
attribute [local go_sem ↓] Go.wp_at_zero Go.wp_at_succ

def encI (k l c e : Int) : ByteArray := bif rightM k l c e then encS k.toNat c.toNat e.toNat l.toNat else ⟨#[]⟩
def encE (k l c e : Int) : Int := bif rightM k l c e then 0 else 60
theorem rightM_iff {k l c e : Int} (h : rightM k l c e = true) : 1 ≤ k ∧ k ≤ 60 ∧ 0 ≤ l ∧ l ≤ 40000 ∧ 1 ≤ c ∧ c ≤ 3 ∧ 0 ≤ e ∧ e ≤ 255 := by
  unfold rightM hasP at h
  simp at h
  omega

/-- told at "no head", as a walk meets it. -/
theorem told_head {E : EnvH} {w : World} (h : GlobH E w) : Calls Tryd.prog 30 #[.slice (some ⟨w.heap.size, 0, none⟩) 1 1] (w.alloc (.cells #[.iface 107 (.pointer (some E.aHead))] 57)) fun r w' => r = .returned (.int .i64 60) ∧ w.alloc (.cells #[.iface 107 (.pointer (some E.aHead))] 57) = w' := told_oneH h .head 1 57
set_option maxHeartbeats 2000000 in
set_option maxRecDepth 20000 in
theorem encode_wrong {E : EnvH} {w : World} (hG : GlobH E w) {k l c e : Int} (hr : rightM k l c e = false) :
    Calls Tryd.prog 10 #[.agg #[.int .i64 k, .int .i64 l, .int .i64 c, .int .i64 e]] w fun r w' => r = .returned (.tuple #[.string ⟨#[]⟩, .int .i64 60]) ∧ Below w.heap.size w w' := by
  obtain ⟨w1, hw1, a0, a1, a2⟩ := allocs1 w (.cells #[.int .i64 k, .int .i64 l, .int .i64 c, .int .i64 e] 23)
  have R := right_anyH (hG.below a0) k l c e
  rw [hr] at R
  have c0 := cells_cell (i := 0) a2 (v := .int .i64 k) rfl
  have c1 := cells_cell (i := 1) a2 (v := .int .i64 l) rfl
  have c2 := cells_cell (i := 2) a2 (v := .int .i64 c) rfl
  have c3 := cells_cell (i := 3) a2 (v := .int .i64 e) rfl
  have hG1 := hG.below a0
  clear hr a1 a2 hG
  refine calls_of_wp_marks Tryd.func10 rfl ?_
  simp only [Tryd.ntmps10, List.size_toArray, List.length_cons, List.length_nil, Nat.reduceAdd, Nat.reduceSub, Array.replicate_succ, Array.replicate_zero, List.push_toArray, List.append_toArray, List.nil_append, List.cons_append]
  go_wp2_with fail
  refine R.mono ?_
  rintro r w3 ⟨rfl, hb3⟩
  have hB3 := blH a0 hb3
  have hG3 := hG1.below hb3
  have k0 : w3.cell? ⟨0, 0, none⟩ = some (.iface 107 (.pointer (some E.aHead))) := hG3.cHead
  have T := told_head hG3
  clear R c0 c1 c2 c3 hb3 a0 hG1 hw1
  go_wp2_with (go_at_call 30; refine T.mono ?_; rintro r w' ⟨rfl, rfl⟩)
  exact bodyPostR_ret0 (results_tmp2 rfl _ _ _) ⟨rfl, hB3.alloc hB3.size _⟩

theorem encode_any {E : EnvH} {w : World} (hG : GlobH E w) (k l c e : Int) :
    Calls Tryd.prog 10 #[.agg #[.int .i64 k, .int .i64 l, .int .i64 c, .int .i64 e]] w fun r w' => r = .returned (.tuple #[.string (encI k l c e), .int .i64 (encE k l c e)]) ∧ Below w.heap.size w w' := by
  unfold encI encE
  cases hr : rightM k l c e with
  | false => exact encode_wrong hG hr
  | true =>
    obtain ⟨h1, h2, h3, h4, h5, h6, h7, h8⟩ := rightM_iff hr
    obtain ⟨K, rfl⟩ : ∃ K : Nat, k = K := ⟨k.toNat, by omega⟩
    obtain ⟨L, rfl⟩ : ∃ L : Nat, l = L := ⟨l.toNat, by omega⟩
    obtain ⟨C, rfl⟩ : ∃ C : Nat, c = C := ⟨c.toNat, by omega⟩
    obtain ⟨D, rfl⟩ : ∃ D : Nat, e = D := ⟨e.toNat, by omega⟩
    exact encode_right hG hr (by omega) (by omega) (by omega) (by omega)

/-- What Decode reads. -/
def byteN (s : ByteArray) (i : Nat) : Nat := ((s[i]?).getD 0).toNat
def decK (s : ByteArray) : Int := (byteN s 1 : Int)
def decC (s : ByteArray) : Int := (byteN s 2 : Int)
def decT (s : ByteArray) : Int := (byteN s 3 : Int)
def decL (s : ByteArray) : Int := (byteN s 4 : Int) + (byteN s 5 : Int) * 256 + (byteN s 6 : Int) * 256 * 256
def decB (s : ByteArray) : Bool := decide (s.size = 8) && (rightM (decK s) (decL s) (decC s) (decT s) && decide (encI (decK s) (decL s) (decC s) (decT s) = s))

theorem results_mark_tmp {fn : Func} {p u : Tmp} (h : fn.results = #[.cell p 23, .tmp u]) (tmps : Array Value) (w : World) (g1 : Nat) (a b c d : Value)
    (hp : tmps.getD p undef = .pointer (some ⟨g1, 0, none⟩)) (h1 : w.heap[g1]? = some (.cells #[a, b, c, d] 23 (0, 0))) :
    (results fn tmps).run Tryd.prog w = .ok (.tuple #[.agg #[a, b, c, d], tmps.getD u undef]) w := by
  have hi : (Tryd.prog.info? 23).map (·.size) = some 4 := by kernel_rfl
  have e1 := run_loadVar_row w g1 23 23 #[a, b, c, d] (0, 0) _ h1 Tryd.underlying23 rfl hi
  rw [results_cell_tmp h, hp]
  simp [asAddr, e1]

theorem mark_stored {w W : World} {g : Nat} {a b c d a' b' c' d' : Value} (hb : Below w.heap.size w W) (hg : w.heap.size ≤ g) (h : W.heap[g]? = some (.cells #[a, b, c, d] 23 (0, 0))) :
    ∃ W', (((W.setCell ⟨g, 0, none⟩ a').setCell ⟨g, 1, none⟩ b').setCell ⟨g, 2, none⟩ c').setCell ⟨g, 3, none⟩ d' = W' ∧ Below w.heap.size w W' ∧ W'.heap[g]? = some (.cells #[a', b', c', d'] 23 (0, 0)) :=
  ⟨_, rfl, (((hb.setCell (p := ⟨g, 0, none⟩) hg a').setCell (p := ⟨g, 1, none⟩) hg b').setCell (p := ⟨g, 2, none⟩) hg c').setCell (p := ⟨g, 3, none⟩) hg d',
    heap_setCell_same (i := 3) d' (heap_setCell_same (i := 2) c' (heap_setCell_same (i := 1) b' (heap_setCell_same (i := 0) a' h)))⟩

set_option maxHeartbeats 2000000 in
set_option maxRecDepth 20000 in
theorem decode_size {E : EnvH} {w : World} (hG : GlobH E w) (s : ByteArray) (hs : s.size ≠ 8) :
    Calls Tryd.prog 12 #[.string s] w fun r w' => r = .returned (.tuple #[.agg #[.int .i64 0, .int .i64 0, .int .i64 0, .int .i64 0], .int .i64 60]) ∧ Below w.heap.size w w' := by
  obtain ⟨w1, hw1, a0, a1, a2⟩ := allocs1 w (.cells #[.int .i64 0, .int .i64 0, .int .i64 0, .int .i64 0] 23)
  have hG1 := hG.below a0
  have k0 : w1.cell? ⟨0, 0, none⟩ = some (.iface 107 (.pointer (some E.aHead))) := hG1.cHead
  have g0 : ((s.size : Int) != 8) = true := by simp; omega
  obtain ⟨w2, hw2, f0, -, -⟩ := allocs1 w1 (.cells #[.iface 107 (.pointer (some E.aHead))] 57)
  have b2 := (f0.block _ (block_lt a2)).trans a2
  have d0 := cells_cell (i := 0) b2 (v := .int .i64 0) rfl
  have d1 := cells_cell (i := 1) b2 (v := .int .i64 0) rfl
  have d2 := cells_cell (i := 2) b2 (v := .int .i64 0) rfl
  have d3 := cells_cell (i := 3) b2 (v := .int .i64 0) rfl
  have l0 := cells_free (i := 0) b2
  have l1 := cells_free (i := 1) b2
  have l2 := cells_free (i := 2) b2
  have l3 := cells_free (i := 3) b2
  obtain ⟨w3, hw3, hB3, e3⟩ := mark_stored (a' := .int .i64 0) (b' := .int .i64 0) (c' := .int .i64 0) (d' := .int .i64 0) (blH a0 f0) (Nat.le_refl _) b2
  have E3 := Lib.hid e3
  have HB3 := Lib.hid hB3
  have T := told_head hG1
  rw [hw2] at T
  clear hG a1 hs b2 e3 hB3 a0 f0 a2
  go_enter Tryd.func12, Tryd.ntmps12
  go_wp2_with (go_at_call 30; (try rw [hw2]); refine T.mono ?_; rintro r w' ⟨rfl, rfl⟩)
  exact bodyPost_ret (results_mark_tmp rfl _ _ w.heap.size _ _ _ _ rfl E3.out) rfl ⟨rfl, HB3.out⟩

theorem str_eq (x s : ByteArray) : (x.toList == s.toList) = decide (x = s) := by
  rw [ByteArray.toList_eq, ByteArray.toList_eq, Bool.eq_iff_iff, beq_iff_eq, decide_eq_true_iff]
  exact ⟨fun h => ByteArray.ext (Array.ext' h), fun h => by rw [h]⟩
theorem byte_at {s : ByteArray} (hs : s.size = 8) (i : Nat) (hi : i < 8) : ∃ n : Nat, (∀ h : i < s.size, (s[i]'h).toNat = n) ∧ byteN s i = n ∧ n < 256 := by
  have h : i < s.size := by omega
  refine ⟨s[i].toNat, fun _ => rfl, ?_, UInt8.toNat_lt _⟩
  unfold byteN
  simp [h]

theorem byte_small (n : Nat) (h : n < 256) : wrap64 (n : Int) = (n : Int) ∧ IntKind.i64.wrap (n : Int) = (n : Int) := ⟨wrap64_small n (by omega), IntWalk.i64_in _ (by omega)⟩
theorem byte_sums (n4 n5 n6 : Nat) (h4 : n4 < 256) (h5 : n5 < 256) (h6 : n6 < 256) :
    IntKind.i64.wrap ((n5 : Int) * 256) = (n5 : Int) * 256 ∧ IntKind.i64.wrap ((n4 : Int) + (n5 : Int) * 256) = (n4 : Int) + (n5 : Int) * 256 ∧ IntKind.i64.wrap ((n6 : Int) * 256) = (n6 : Int) * 256 ∧
    IntKind.i64.wrap ((n6 : Int) * 256 * 256) = (n6 : Int) * 256 * 256 ∧ IntKind.i64.wrap ((n4 : Int) + (n5 : Int) * 256 + (n6 : Int) * 256 * 256) = (n4 : Int) + (n5 : Int) * 256 + (n6 : Int) * 256 * 256 :=
  ⟨IntWalk.i64_in _ (by omega), IntWalk.i64_in _ (by omega), IntWalk.i64_in _ (by omega), IntWalk.i64_in _ (by omega), IntWalk.i64_in _ (by omega)⟩

set_option maxHeartbeats 4000000 in
set_option maxRecDepth 40000 in
theorem decode_eight {E : EnvH} {w : World} (hG : GlobH E w) (s : ByteArray) (hs : s.size = 8) :
    Calls Tryd.prog 12 #[.string s] w fun r w' => r = .returned (.tuple #[bif decB s then .agg #[.int .i64 (decK s), .int .i64 (decL s), .int .i64 (decC s), .int .i64 (decT s)] else .agg #[.int .i64 0, .int .i64 0, .int .i64 0, .int .i64 0], .int .i64 (bif decB s then 0 else 60)]) ∧ Below w.heap.size w w' := by
  obtain ⟨w1, hw1, a0, a1, a2⟩ := allocs1 w (.cells #[.int .i64 0, .int .i64 0, .int .i64 0, .int .i64 0] 23)
  have hG1 := hG.below a0
  obtain ⟨n1, x1, e1, p1⟩ := byte_at hs 1 (by decide)
  have q1 : ((1 : Nat) : Int) < (s.size : Int) := by omega
  rw [show ((1 : Nat) : Int) = 1 from rfl] at q1
  obtain ⟨n2, x2, e2, p2⟩ := byte_at hs 2 (by decide)
  have q2 : ((2 : Nat) : Int) < (s.size : Int) := by omega
  rw [show ((2 : Nat) : Int) = 2 from rfl] at q2
  obtain ⟨n3, x3, e3, p3⟩ := byte_at hs 3 (by decide)
  have q3 : ((3 : Nat) : Int) < (s.size : Int) := by omega
  rw [show ((3 : Nat) : Int) = 3 from rfl] at q3
  obtain ⟨n4, x4, e4, p4⟩ := byte_at hs 4 (by decide)
  have q4 : ((4 : Nat) : Int) < (s.size : Int) := by omega
  rw [show ((4 : Nat) : Int) = 4 from rfl] at q4
  obtain ⟨n5, x5, e5, p5⟩ := byte_at hs 5 (by decide)
  have q5 : ((5 : Nat) : Int) < (s.size : Int) := by omega
  rw [show ((5 : Nat) : Int) = 5 from rfl] at q5
  obtain ⟨n6, x6, e6, p6⟩ := byte_at hs 6 (by decide)
  have q6 : ((6 : Nat) : Int) < (s.size : Int) := by omega
  rw [show ((6 : Nat) : Int) = 6 from rfl] at q6
  have g0 : ((s.size : Int) != 8) = false := by simp; omega
  have hB : decB s = (rightM (decK s) (decL s) (decC s) (decT s) && decide (encI (decK s) (decL s) (decC s) (decT s) = s)) := by unfold decB; rw [decide_eq_true hs]; rfl
  rw [hB]
  unfold decK decL decC decT
  rw [e1, e2, e3, e4, e5, e6]
  have v1 := (byte_small n1 p1).1
  have u1 := (byte_small n1 p1).2
  have v2 := (byte_small n2 p2).1
  have u2 := (byte_small n2 p2).2
  have v3 := (byte_small n3 p3).1
  have u3 := (byte_small n3 p3).2
  have v4 := (byte_small n4 p4).1
  have u4 := (byte_small n4 p4).2
  have v5 := (byte_small n5 p5).1
  have u5 := (byte_small n5 p5).2
  have v6 := (byte_small n6 p6).1
  have u6 := (byte_small n6 p6).2
  obtain ⟨v7, v8, v9, v10, v11⟩ := byte_sums n4 n5 n6 p4 p5 p6
  obtain ⟨W2, hW2, f0, -, f2⟩ := allocs1 w1 (.cells #[.int .i64 (n1 : Int), .int .i64 ((n4 : Int) + (n5 : Int) * 256 + (n6 : Int) * 256 * 256), .int .i64 (n2 : Int), .int .i64 (n3 : Int)] 23)
  clear hs e1 e2 e3 e4 e5 e6 p1 p2 p3 p4 p5 p6 hB a1
  go_enter Tryd.func12, Tryd.ntmps12
  go_wp2
  clear hw1
  have HC : Below w1.heap.size w1 w1 := Below.refl _ _
  refine wp_region_held_drew (S := (fun W' => Below w1.heap.size w1 W')) (by kernel_rfl) HC.drew (fun hHeld => ?_)
  refine wpAnyH_take (i := 0) (oi := ?o0) (v := ?v0) ?hi0 (by kernel_rfl) (by kernel_rfl) (by kernel_rfl) ?hq0 (Or.inl ⟨?hw0, ?hy0⟩) (by assumption) ?_
  case hi0 => simp only [List.getElem?_toArray, List.getElem?_cons_zero]; rfl
  case hq0 => exact fun _ _ _ h => h
  case hw0 => rfl
  case hy0 => (intro w hSw; (try dsimp only at hSw); go_simp; try with_reducible rfl)
  try simp only [Act.put, List.setIfInBounds_toArray, List.set_cons_zero, List.set_cons_succ]
  refine wpAnyH_take (i := 1) (oi := ?o1) (v := ?v1) ?hi1 (by kernel_rfl) (by kernel_rfl) (by kernel_rfl) ?hq1 (Or.inl ⟨?hw1, ?hy1⟩) (by assumption) ?_
  case hi1 => simp only [List.getElem?_toArray, List.getElem?_cons_succ, List.getElem?_cons_zero]; rfl
  case hq1 => exact fun _ _ _ h => h
  case hw1 => rfl
  case hy1 => (intro w hSw; (try dsimp only at hSw); go_simp; try with_reducible rfl)
  try simp only [Act.put, List.setIfInBounds_toArray, List.set_cons_zero, List.set_cons_succ]
  refine wpAnyH_take (i := 2) (oi := ?o2) (v := ?v2) ?hi2 (by kernel_rfl) (by kernel_rfl) (by kernel_rfl) ?hq2 (Or.inl ⟨?hw2, ?hy2⟩) (by assumption) ?_
  case hi2 => simp only [List.getElem?_toArray, List.getElem?_cons_succ, List.getElem?_cons_zero]; rfl
  case hq2 => exact fun _ _ _ h => h
  case hw2 => rfl
  case hy2 => (intro w hSw; (try dsimp only at hSw); go_simp; try with_reducible rfl)
  try simp only [Act.put, List.setIfInBounds_toArray, List.set_cons_zero, List.set_cons_succ]
  refine wpAnyH_take (i := 3) (oi := ?o3) (v := ?v3) ?hi3 (by kernel_rfl) (by kernel_rfl) (by kernel_rfl) ?hq3 (Or.inl ⟨?hw3, ?hy3⟩) (by assumption) ?_
  case hi3 => simp only [List.getElem?_toArray, List.getElem?_cons_succ, List.getElem?_cons_zero]; rfl
  case hq3 => exact fun _ _ _ h => h
  case hw3 => rfl
  case hy3 => (intro w hSw; (try dsimp only at hSw); go_simp; try with_reducible rfl)
  try simp only [Act.put, List.setIfInBounds_toArray, List.set_cons_zero, List.set_cons_succ]
  refine wpAnyH_take (i := 4) (oi := ?o4) (v := ?v4) ?hi4 (by kernel_rfl) (by kernel_rfl) (by kernel_rfl) ?hq4 (Or.inl ⟨?hw4, ?hy4⟩) (by assumption) ?_
  case hi4 => simp only [List.getElem?_toArray, List.getElem?_cons_succ, List.getElem?_cons_zero]; rfl
  case hq4 => exact fun _ _ _ h => h
  case hw4 => rfl
  case hy4 => (intro w hSw; (try dsimp only at hSw); go_simp; try with_reducible rfl)
  try simp only [Act.put, List.setIfInBounds_toArray, List.set_cons_zero, List.set_cons_succ]
  refine wpAnyH_take (i := 5) (oi := ?o5) (v := ?v5) ?hi5 (by kernel_rfl) (by kernel_rfl) (by kernel_rfl) ?hq5 (Or.inl ⟨?hw5, ?hy5⟩) (by assumption) ?_
  case hi5 => simp only [List.getElem?_toArray, List.getElem?_cons_succ, List.getElem?_cons_zero]; rfl
  case hq5 => exact fun _ _ _ h => h
  case hw5 => rfl
  case hy5 => (intro w hSw; (try dsimp only at hSw); go_simp; try with_reducible rfl)
  try simp only [Act.put, List.setIfInBounds_toArray, List.set_cons_zero, List.set_cons_succ]
  refine wpAnyH_take (i := 6) (oi := ?o6) (v := ?v6) ?hi6 (by kernel_rfl) (by kernel_rfl) (by kernel_rfl) ?hq6 (Or.inl ⟨?hw6, ?hy6⟩) (by assumption) ?_
  case hi6 => simp only [List.getElem?_toArray, List.getElem?_cons_succ, List.getElem?_cons_zero]; rfl
  case hq6 => exact fun _ _ _ h => h
  case hw6 => rfl
  case hy6 => (intro w hSw; (try dsimp only at hSw); go_simp; try with_reducible rfl)
  try simp only [Act.put, List.setIfInBounds_toArray, List.set_cons_zero, List.set_cons_succ]
  refine wpAnyH_take (i := 7) (oi := ?o7) (v := ?v7) ?hi7 (by kernel_rfl) (by kernel_rfl) (by kernel_rfl) ?hq7 (Or.inl ⟨?hw7, ?hy7⟩) (by assumption) ?_
  case hi7 => simp only [List.getElem?_toArray, List.getElem?_cons_succ, List.getElem?_cons_zero]; rfl
  case hq7 => exact fun _ _ _ h => h
  case hw7 => rfl
  case hy7 => (intro w hSw; (try dsimp only at hSw); go_simp; try with_reducible rfl)
  try simp only [Act.put, List.setIfInBounds_toArray, List.set_cons_zero, List.set_cons_succ]
  refine wpAnyH_take (i := 8) (oi := ?o8) (v := ?v8) ?hi8 (by kernel_rfl) (by kernel_rfl) (by kernel_rfl) ?hq8 (Or.inl ⟨?hw8, ?hy8⟩) (by assumption) ?_
  case hi8 => simp only [List.getElem?_toArray, List.getElem?_cons_succ, List.getElem?_cons_zero]; rfl
  case hq8 => exact fun _ _ _ h => h
  case hw8 => rfl
  case hy8 => (intro w hSw; (try dsimp only at hSw); go_simp; try with_reducible rfl)
  try simp only [Act.put, List.setIfInBounds_toArray, List.set_cons_zero, List.set_cons_succ]
  refine wpAnyH_take (i := 9) (oi := ?o9) (v := ?v9) ?hi9 (by kernel_rfl) (by kernel_rfl) (by kernel_rfl) ?hq9 (Or.inl ⟨?hw9, ?hy9⟩) (by assumption) ?_
  case hi9 => simp only [List.getElem?_toArray, List.getElem?_cons_succ, List.getElem?_cons_zero]; rfl
  case hq9 => exact fun _ _ _ h => h
  case hw9 => rfl
  case hy9 => (intro w hSw; (try dsimp only at hSw); go_simp; try with_reducible rfl)
  try simp only [Act.put, List.setIfInBounds_toArray, List.set_cons_zero, List.set_cons_succ]
  refine wpAnyH_take (i := 10) (oi := ?o10) (v := ?v10) ?hi10 (by kernel_rfl) (by kernel_rfl) (by kernel_rfl) ?hq10 (Or.inl ⟨?hw10, ?hy10⟩) (by assumption) ?_
  case hi10 => simp only [List.getElem?_toArray, List.getElem?_cons_succ, List.getElem?_cons_zero]; rfl
  case hq10 => exact fun _ _ _ h => h
  case hw10 => rfl
  case hy10 => (intro w hSw; (try dsimp only at hSw); go_simp; try with_reducible rfl)
  try simp only [Act.put, List.setIfInBounds_toArray, List.set_cons_zero, List.set_cons_succ]
  refine wpAnyH_take (i := 11) (oi := ?o11) (v := ?v11) ?hi11 (by kernel_rfl) (by kernel_rfl) (by kernel_rfl) ?hq11 (Or.inl ⟨?hw11, ?hy11⟩) (by assumption) ?_
  case hi11 => simp only [List.getElem?_toArray, List.getElem?_cons_succ, List.getElem?_cons_zero]; rfl
  case hq11 => exact fun _ _ _ h => h
  case hw11 => rfl
  case hy11 => (intro w hSw; (try dsimp only at hSw); go_simp; try with_reducible rfl)
  try simp only [Act.put, List.setIfInBounds_toArray, List.set_cons_zero, List.set_cons_succ]
  refine wpAnyH_take (i := 12) (oi := ?o12) (v := ?v12) ?hi12 (by kernel_rfl) (by kernel_rfl) (by kernel_rfl) ?hq12 (Or.inl ⟨?hw12, ?hy12⟩) (by assumption) ?_
  case hi12 => simp only [List.getElem?_toArray, List.getElem?_cons_succ, List.getElem?_cons_zero]; rfl
  case hq12 => exact fun _ _ _ h => h
  case hw12 => rfl
  case hy12 => (intro w hSw; (try dsimp only at hSw); go_simp; try with_reducible rfl)
  try simp only [Act.put, List.setIfInBounds_toArray, List.set_cons_zero, List.set_cons_succ]
  refine wpAnyH_take (i := 13) (oi := ?o13) (v := ?v13) ?hi13 (by kernel_rfl) (by kernel_rfl) (by kernel_rfl) ?hq13 (Or.inl ⟨?hw13, ?hy13⟩) (by assumption) ?_
  case hi13 => simp only [List.getElem?_toArray, List.getElem?_cons_succ, List.getElem?_cons_zero]; rfl
  case hq13 => exact fun _ _ _ h => h
  case hw13 => rfl
  case hy13 => (intro w hSw; (try dsimp only at hSw); go_simp; try with_reducible rfl)
  try simp only [Act.put, List.setIfInBounds_toArray, List.set_cons_zero, List.set_cons_succ]
  refine wpAnyH_take (i := 14) (oi := ?o14) (v := ?v14) ?hi14 (by kernel_rfl) (by kernel_rfl) (by kernel_rfl) ?hq14 (Or.inl ⟨?hw14, ?hy14⟩) (by assumption) ?_
  case hi14 => simp only [List.getElem?_toArray, List.getElem?_cons_succ, List.getElem?_cons_zero]; rfl
  case hq14 => exact fun _ _ _ h => h
  case hw14 => rfl
  case hy14 => (intro w hSw; (try dsimp only at hSw); go_simp; try with_reducible rfl)
  try simp only [Act.put, List.setIfInBounds_toArray, List.set_cons_zero, List.set_cons_succ]
  refine wpAnyH_take (i := 15) (oi := ?o15) (v := ?v15) ?hi15 (by kernel_rfl) (by kernel_rfl) (by kernel_rfl) ?hq15 (Or.inl ⟨?hw15, ?hy15⟩) (by assumption) ?_
  case hi15 => simp only [List.getElem?_toArray, List.getElem?_cons_succ, List.getElem?_cons_zero]; rfl
  case hq15 => exact fun _ _ _ h => h
  case hw15 => rfl
  case hy15 => (intro w hSw; (try dsimp only at hSw); go_simp; try with_reducible rfl)
  try simp only [Act.put, List.setIfInBounds_toArray, List.set_cons_zero, List.set_cons_succ]
  refine wpAnyH_take (i := 16) (oi := ?o16) (v := ?v16) ?hi16 (by kernel_rfl) (by kernel_rfl) (by kernel_rfl) ?hq16 (Or.inl ⟨?hw16, ?hy16⟩) (by assumption) ?_
  case hi16 => simp only [List.getElem?_toArray, List.getElem?_cons_succ, List.getElem?_cons_zero]; rfl
  case hq16 => exact fun _ _ _ h => h
  case hw16 => rfl
  case hy16 => (intro w hSw; (try dsimp only at hSw); go_simp; try with_reducible rfl)
  try simp only [Act.put, List.setIfInBounds_toArray, List.set_cons_zero, List.set_cons_succ]
  refine wpAnyH_take (i := 17) (oi := ?o17) (v := ?v17) ?hi17 (by kernel_rfl) (by kernel_rfl) (by kernel_rfl) ?hq17 (Or.inl ⟨?hw17, ?hy17⟩) (by assumption) ?_
  case hi17 => simp only [List.getElem?_toArray, List.getElem?_cons_succ, List.getElem?_cons_zero]; rfl
  case hq17 => exact fun _ _ _ h => h
  case hw17 => rfl
  case hy17 => (intro w hSw; (try dsimp only at hSw); go_simp; try with_reducible rfl)
  try simp only [Act.put, List.setIfInBounds_toArray, List.set_cons_zero, List.set_cons_succ]
  refine wpAnyH_take (i := 18) (oi := ?o18) (v := ?v18) ?hi18 (by kernel_rfl) (by kernel_rfl) (by kernel_rfl) ?hq18 (Or.inl ⟨?hw18, ?hy18⟩) (by assumption) ?_
  case hi18 => simp only [List.getElem?_toArray, List.getElem?_cons_succ, List.getElem?_cons_zero]; rfl
  case hq18 => exact fun _ _ _ h => h
  case hw18 => rfl
  case hy18 => (intro w hSw; (try dsimp only at hSw); go_simp; try with_reducible rfl)
  try simp only [Act.put, List.setIfInBounds_toArray, List.set_cons_zero, List.set_cons_succ]
  refine wpAnyH_take (i := 19) (oi := ?o19) (v := ?v19) ?hi19 (by kernel_rfl) (by kernel_rfl) (by kernel_rfl) ?hq19 (Or.inl ⟨?hw19, ?hy19⟩) (by assumption) ?_
  case hi19 => simp only [List.getElem?_toArray, List.getElem?_cons_succ, List.getElem?_cons_zero]; rfl
  case hq19 => exact fun _ _ _ h => h
  case hw19 => rfl
  case hy19 => (intro w hSw; (try dsimp only at hSw); go_simp; try with_reducible rfl)
  try simp only [Act.put, List.setIfInBounds_toArray, List.set_cons_zero, List.set_cons_succ]
  refine wpAnyH_take (i := 20) (oi := ?o20) (v := ?v20) ?hi20 (by kernel_rfl) (by kernel_rfl) (by kernel_rfl) ?hq20 (Or.inl ⟨?hw20, ?hy20⟩) (by assumption) ?_
  case hi20 => simp only [List.getElem?_toArray, List.getElem?_cons_succ, List.getElem?_cons_zero]; rfl
  case hq20 => exact fun _ _ _ h => h
  case hw20 => rfl
  case hy20 => (intro w hSw; (try dsimp only at hSw); go_simp; try with_reducible rfl)
  try simp only [Act.put, List.setIfInBounds_toArray, List.set_cons_zero, List.set_cons_succ]
  refine wpAnyH_take (i := 21) (oi := ?o21) (v := ?v21) ?hi21 (by kernel_rfl) (by kernel_rfl) (by kernel_rfl) ?hq21 (Or.inl ⟨?hw21, ?hy21⟩) (by assumption) ?_
  case hi21 => simp only [List.getElem?_toArray, List.getElem?_cons_succ, List.getElem?_cons_zero]; rfl
  case hq21 => exact fun _ _ _ h => h
  case hw21 => rfl
  case hy21 => (intro w hSw; (try dsimp only at hSw); go_simp; try with_reducible rfl)
  try simp only [Act.put, List.setIfInBounds_toArray, List.set_cons_zero, List.set_cons_succ]
  refine wpAnyH_take (i := 22) (oi := ?o22) (v := ?v22) ?hi22 (by kernel_rfl) (by kernel_rfl) (by kernel_rfl) ?hq22 (Or.inl ⟨?hw22, ?hy22⟩) (by assumption) ?_
  case hi22 => simp only [List.getElem?_toArray, List.getElem?_cons_succ, List.getElem?_cons_zero]; rfl
  case hq22 => exact fun _ _ _ h => h
  case hw22 => rfl
  case hy22 => (intro w hSw; (try dsimp only at hSw); go_simp; try with_reducible rfl)
  try simp only [Act.put, List.setIfInBounds_toArray, List.set_cons_zero, List.set_cons_succ]
  refine wpAnyH_take (i := 23) (oi := ?o23) (v := ?v23) ?hi23 (by kernel_rfl) (by kernel_rfl) (by kernel_rfl) ?hq23 (Or.inl ⟨?hw23, ?hy23⟩) (by assumption) ?_
  case hi23 => simp only [List.getElem?_toArray, List.getElem?_cons_succ, List.getElem?_cons_zero]; rfl
  case hq23 => exact fun _ _ _ h => h
  case hw23 => rfl
  case hy23 => (intro w hSw; (try dsimp only at hSw); go_simp; try with_reducible rfl)
  try simp only [Act.put, List.setIfInBounds_toArray, List.set_cons_zero, List.set_cons_succ]
  refine wpAnyH_ready (rs := [24]) (by kernel_rfl) (by simp) (AllReadyH.cons (o := ?o24) ?hi24 (fun K hK => ?step24) AllReadyH.nil)
  case hi24 => simp only [List.getElem?_toArray, List.getElem?_cons_succ, List.getElem?_cons_zero]; rfl
  case step24 =>
    go_simp
    refine hK.out _ _ (HC.drew.alloc HC.drew.size _) (fun hHeld => ?_)
    clear hK K
    try simp only [Act.put, List.setIfInBounds_toArray, List.set_cons_zero, List.set_cons_succ]
    refine wpAnyH_ready (rs := [25]) (by kernel_rfl) (by simp) (AllReadyH.cons (o := ?o25) ?hi25 (fun K hK => ?step25) AllReadyH.nil)
    case hi25 => simp only [List.getElem?_toArray, List.getElem?_cons_succ, List.getElem?_cons_zero]; rfl
    case step25 =>
      go_simp
      refine hK.out _ _ f0.drew (fun hHeld => ?_)
      clear hK K
      try simp only [Act.put, List.setIfInBounds_toArray, List.set_cons_zero, List.set_cons_succ]
      refine wpAnyH_done (by kernel_rfl) ?_ 0
      obtain ⟨W3, hW3⟩ : ∃ W3, W2.drew = W3 := ⟨_, rfl⟩
      have f3 : W3.heap[w1.heap.size]? = _ := (show W3.heap[w1.heap.size]? = W2.heap[w1.heap.size]? by rw [← hW3]; rfl).trans f2
      have hB3 : Below w1.heap.size w1 W3 := by rw [← hW3]; exact f0.drew
      rw [hW3]
      have hG3 := hG1.below hB3
      have a3 := (hB3.block _ (block_lt a2)).trans a2
      have hBw := blH a0 hB3
      have ENC := encode_any hG3 (n1 : Int) ((n4 : Int) + (n5 : Int) * 256 + (n6 : Int) * 256 * 256) (n2 : Int) (n3 : Int)
      generalize hLL : (n4 : Int) + (n5 : Int) * 256 + (n6 : Int) * 256 * 256 = L at *
      have HLL := Lib.hid hLL
      clear hLL
      have d0 := cells_cell (i := 0) f3 (v := .int .i64 (n1 : Int)) rfl
      have d1 := cells_cell (i := 1) f3 (v := .int .i64 L) rfl
      have d2 := cells_cell (i := 2) f3 (v := .int .i64 (n2 : Int)) rfl
      have d3 := cells_cell (i := 3) f3 (v := .int .i64 (n3 : Int)) rfl
      clear v1 v2 v3 v4 v5 v6 u1 u2 u3 u4 u5 u6 v7 v8 v9 v10 v11 x1 x2 x3 x4 x5 x6 q1 q2 q3 q4 q5 q6 hW3 hW2 f2 f0 hB3 a2 hG1 hG a0 hHeld HC
      go_wp2_with fail
      refine ENC.mono ?_
      rintro r W4 ⟨rfl, hb⟩
      have hG4 := hG3.below hb
      have f4 := (hb.block _ (block_lt f3)).trans f3
      have a4 := (hb.block _ (block_lt a3)).trans a3
      have hB4 := blH hBw hb
      have d0 := cells_cell (i := 0) f4 (v := .int .i64 (n1 : Int)) rfl
      have d1 := cells_cell (i := 1) f4 (v := .int .i64 L) rfl
      have d2 := cells_cell (i := 2) f4 (v := .int .i64 (n2 : Int)) rfl
      have d3 := cells_cell (i := 3) f4 (v := .int .i64 (n3 : Int)) rfl
      have o0 := cells_cell (i := 0) a4 (v := .int .i64 0) rfl
      have o1 := cells_cell (i := 1) a4 (v := .int .i64 0) rfl
      have o2 := cells_cell (i := 2) a4 (v := .int .i64 0) rfl
      have o3 := cells_cell (i := 3) a4 (v := .int .i64 0) rfl
      have l0 := cells_free (i := 0) a4
      have l1 := cells_free (i := 1) a4
      have l2 := cells_free (i := 2) a4
      have l3 := cells_free (i := 3) a4
      have hne : w.heap.size < W4.heap.size := block_lt a4
      have bad : ∀ (tmps : Array Value), True := fun _ => trivial
      clear bad ENC hG3 f3 a3 hBw hb
      obtain ⟨x, hx⟩ : ∃ x, encI (n1 : Int) L (n2 : Int) (n3 : Int) = x := ⟨_, rfl⟩
      have HX := Lib.hid hx
      cases hr : rightM (n1 : Int) L (n2 : Int) (n3 : Int) with
      | false =>
        have HR := Lib.hid hr
        have ee : encE (n1 : Int) L (n2 : Int) (n3 : Int) = 60 := by unfold encE; rw [hr]; rfl
        rw [ee, hx]
        obtain ⟨W5, hW5, f5, -, -⟩ := allocs1 W4 (.cells #[.iface 107 (.pointer (some E.aHead))] 57)
        have a5 := (f5.block _ (block_lt a4)).trans a4
        have p0 := cells_cell (i := 0) a5 (v := .int .i64 0) rfl
        have p1 := cells_cell (i := 1) a5 (v := .int .i64 0) rfl
        have p2 := cells_cell (i := 2) a5 (v := .int .i64 0) rfl
        have p3 := cells_cell (i := 3) a5 (v := .int .i64 0) rfl
        have r0 := cells_free (i := 0) a5
        have r1 := cells_free (i := 1) a5
        have r2 := cells_free (i := 2) a5
        have r3 := cells_free (i := 3) a5
        obtain ⟨W6, hW6, hB6, e6⟩ := mark_stored (a' := .int .i64 0) (b' := .int .i64 0) (c' := .int .i64 0) (d' := .int .i64 0) (blH hB4 f5) (Nat.le_refl _) a5
        have E6 := Lib.hid e6
        have HB6 := Lib.hid hB6
        have k0 : W4.cell? ⟨0, 0, none⟩ = some (.iface 107 (.pointer (some E.aHead))) := hG4.cHead
        have T := told_head hG4
        rw [hW5] at T
        clear hr hx ee d0 d1 d2 d3 o0 o1 o2 o3 l0 l1 l2 l3 a4 a5 f4 e6 hB6 hB4 f5 hG4
        go_wp2_with (go_at_call 30; (try rw [hW5]); refine T.mono ?_; rintro r w' ⟨rfl, rfl⟩)
        exact bodyPost_ret (results_mark_tmp rfl _ _ w.heap.size _ _ _ _ rfl E6.out) rfl ⟨by rw [HLL.out, HR.out]; rfl, HB6.out⟩
      | true =>
        have HR := Lib.hid hr
        have ee : encE (n1 : Int) L (n2 : Int) (n3 : Int) = 0 := by unfold encE; rw [hr]; rfl
        rw [ee, hx]
        by_cases hxs : x = s
        · have g1 : (x.toList == s.toList) = true := by rw [str_eq, decide_eq_true hxs]
          have HXS := Lib.hid hxs
          obtain ⟨W6, hW6, hB6, e6⟩ := mark_stored (a' := .int .i64 (n1 : Int)) (b' := .int .i64 L) (c' := .int .i64 (n2 : Int)) (d' := .int .i64 (n3 : Int)) hB4 (Nat.le_refl _) a4
          have E6 := Lib.hid e6
          have HB6 := Lib.hid hB6
          clear hr hx ee a4 f4 e6 hB6 hB4 hG4 hxs
          go_wp2
          exact bodyPost_ret (results_mark_tmp rfl _ _ w.heap.size _ _ _ _ rfl E6.out) rfl ⟨by rw [HLL.out, HR.out, HX.out, decide_eq_true HXS.out]; rfl, HB6.out⟩
        · have g1 : (x.toList == s.toList) = false := by rw [str_eq, decide_eq_false hxs]
          have HXS := Lib.hid hxs
          obtain ⟨W5, hW5, f5, -, -⟩ := allocs1 W4 (.cells #[.iface 107 (.pointer (some E.aHead))] 57)
          have a5 := (f5.block _ (block_lt a4)).trans a4
          have p0 := cells_cell (i := 0) a5 (v := .int .i64 0) rfl
          have p1 := cells_cell (i := 1) a5 (v := .int .i64 0) rfl
          have p2 := cells_cell (i := 2) a5 (v := .int .i64 0) rfl
          have p3 := cells_cell (i := 3) a5 (v := .int .i64 0) rfl
          have r0 := cells_free (i := 0) a5
          have r1 := cells_free (i := 1) a5
          have r2 := cells_free (i := 2) a5
          have r3 := cells_free (i := 3) a5
          obtain ⟨W6, hW6, hB6, e6⟩ := mark_stored (a' := .int .i64 0) (b' := .int .i64 0) (c' := .int .i64 0) (d' := .int .i64 0) (blH hB4 f5) (Nat.le_refl _) a5
          have E6 := Lib.hid e6
          have HB6 := Lib.hid hB6
          have k0 : W4.cell? ⟨0, 0, none⟩ = some (.iface 107 (.pointer (some E.aHead))) := hG4.cHead
          have T := told_head hG4
          rw [hW5] at T
          clear hr hx ee d0 d1 d2 d3 o0 o1 o2 o3 l0 l1 l2 l3 a4 a5 f4 e6 hB6 hB4 f5 hG4 hxs
          go_wp2_with (go_at_call 30; (try rw [hW5]); refine T.mono ?_; rintro r w' ⟨rfl, rfl⟩)
          exact bodyPost_ret (results_mark_tmp rfl _ _ w.heap.size _ _ _ _ rfl E6.out) rfl ⟨by rw [HLL.out, HR.out, HX.out, decide_eq_false HXS.out]; rfl, HB6.out⟩
end Go.Proofs.YtdhligapadblgaaDoor

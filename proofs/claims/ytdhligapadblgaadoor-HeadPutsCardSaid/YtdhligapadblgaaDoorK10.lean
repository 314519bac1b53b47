/- Layer head: the document's answer: Encode. -/
import Derived.Test.YtdhligapadblgaaDoorK9
namespace Go.Proofs.YtdhligapadblgaaDoor
open Go.RowKit
attribute [local go_sem ↓] Go.wp_at_zero Go.wp_at_succ

theorem conv_cells (W : World) (g cap : Nat) (L : List Nat) (hL : ∀ x ∈ L, x < 256) (h : ∀ j, j < L.length → W.cell? ⟨g, j, none⟩ = some (.int .u8 ((L.getD j 0 : Nat) : Int))) :
    (convert 34 9 (.slice (some ⟨g, 0, none⟩) L.length cap)).run Tryd.prog W = .ok (.string ⟨(L.map UInt8.ofNat).toArray⟩) W := by
  have := run_convert_bytes_back (P := Tryd.prog) W 34 9 5 ⟨g, 0, none⟩ cap (L.map UInt8.ofNat) Tryd.underlying34 Tryd.underlying5 Tryd.underlying9 (fun j hj => by
    have hj' : j < L.length := by simpa using hj
    have h1 := hL _ (List.getElem_mem hj')
    rw [Addr.add_lit, Nat.zero_add, h j hj', List.getD_eq_getElem?_getD, List.getElem?_eq_getElem hj']
    congr 2
    simp
    omega)
  simpa using this

theorem headN_lt (k c e l : Nat) : ∀ x ∈ headN k c e l, x < 256 := fun x hx => headL_lt k c e l x (List.mem_append_left _ hx)
theorem headN_even (k c e l : Nat) : evenN (headN k c e l) = headX k c e l := by
  rw [evenN_xor (headN_lt k c e l)]
  unfold headX
  show 181 ^^^ (k % 256 ^^^ (c % 256 ^^^ (e % 256 ^^^ (l % 256 ^^^ (l / 256 % 256 ^^^ (l / 256 / 256 % 256 ^^^ 0)))))) = _
  rw [Nat.xor_zero]
  simp only [Nat.xor_assoc]
def bytes7 (k c e l : Nat) : ByteArray := ⟨((headN k c e l).map UInt8.ofNat).toArray⟩
theorem bytes7_all (k c e l : Nat) : bytes7 k c e l ++ ⟨#[UInt8.ofNat (headX k c e l)]⟩ = encS k c e l := by
  apply ByteArray.ext
  apply Array.ext'
  unfold bytes7 encS headU headL
  simp
theorem bytes7_at (k c e l i : Nat) (h : i < (bytes7 k c e l).size) : ((bytes7 k c e l)[i]'h).toNat = (headN k c e l).getD i 0 := by
  have h8 : i < (headN k c e l).length := h
  have h256 := headN_lt k c e l _ (List.getElem_mem h8)
  have e1 : (bytes7 k c e l)[i]'h = UInt8.ofNat ((headN k c e l)[i]'h8) := by
    show ((headN k c e l).map UInt8.ofNat)[i]'(by rw [List.length_map]; exact h8) = _
    rw [List.getElem_map]
  rw [e1, List.getD_eq_getElem?_getD, List.getElem?_eq_getElem h8]
  simp
  omega
theorem head_words (k c e l : Nat) (hl : l ≤ 1000000) :
    IntKind.u8.wrap (k : Int) = ((k % 256 : Nat) : Int) ∧ IntKind.u8.wrap (c : Int) = ((c % 256 : Nat) : Int) ∧ IntKind.u8.wrap (e : Int) = ((e % 256 : Nat) : Int) ∧ (l : Int).tmod 256 = ((l % 256 : Nat) : Int) ∧
    IntKind.u8.wrap ((l % 256 : Nat) : Int) = ((l % 256 : Nat) : Int) ∧ (l : Int) / 256 = ((l / 256 : Nat) : Int) ∧ wrap64 ((l / 256 : Nat) : Int) = ((l / 256 : Nat) : Int) ∧ ((l / 256 : Nat) : Int).tmod 256 = ((l / 256 % 256 : Nat) : Int) ∧
    IntKind.u8.wrap ((l / 256 % 256 : Nat) : Int) = ((l / 256 % 256 : Nat) : Int) ∧ (l : Int) / 65536 = ((l / 65536 : Nat) : Int) ∧ wrap64 ((l / 65536 : Nat) : Int) = ((l / 65536 : Nat) : Int) ∧ IntKind.u8.wrap ((l / 65536 : Nat) : Int) = ((l / 256 / 256 % 256 : Nat) : Int) := by
  refine ⟨?_, ?_, ?_, ?_, ?_, ?_, wrap64_small _ (by omega), ?_, ?_, ?_, wrap64_small _ (by omega), ?_⟩
  · rw [IntKind.wrap_u8']; omega
  · rw [IntKind.wrap_u8']; omega
  · rw [IntKind.wrap_u8']; omega
  · rw [Int.tmod_eq_emod_of_nonneg (Int.natCast_nonneg _)]; omega
  · rw [IntKind.wrap_u8']; omega
  · omega
  · rw [Int.tmod_eq_emod_of_nonneg (Int.natCast_nonneg _)]; omega
  · rw [IntKind.wrap_u8']; omega
  · omega
  · rw [IntKind.wrap_u8']; omega

set_option maxHeartbeats 2000000 in
set_option maxRecDepth 20000 in
theorem encodeRef_right {w : World} {k c e l : Nat} (hr : rightM (k : Int) (l : Int) (c : Int) (e : Int) = true) (hl : l ≤ 1000000) :
    Calls Tryd.prog 11 #[.agg #[.int .i64 (k : Int), .int .i64 (l : Int), .int .i64 (c : Int), .int .i64 (e : Int)]] w fun r w' => r = .returned (.tuple #[.string (encS k c e l), .int .i64 0]) ∧ Below w.heap.size w w' := by
  obtain ⟨w1, hw1, a0, -, a1⟩ := allocs1 w (.cells #[.int .i64 (k : Int), .int .i64 (l : Int), .int .i64 (c : Int), .int .i64 (e : Int)] 23)
  have R := rightRefH (w := w1) (k : Int) (l : Int) (c : Int) (e : Int)
  rw [hr] at R
  have c0 := cells_cell (i := 0) a1 (v := .int .i64 (k : Int)) rfl
  have c1 := cells_cell (i := 1) a1 (v := .int .i64 (l : Int)) rfl
  have c2 := cells_cell (i := 2) a1 (v := .int .i64 (c : Int)) rfl
  have c3 := cells_cell (i := 3) a1 (v := .int .i64 (e : Int)) rfl
  clear hr
  go_enter Tryd.func11, Tryd.ntmps11
  go_wp2_with fail
  refine R.mono ?_
  rintro r w2 ⟨rfl, hb2⟩
  have b1 := (hb2.block _ (block_lt a1)).trans a1
  have hB2 := blH a0 hb2
  clear R c0 c1 c2 c3 hb2 a1 a0 hw1
  have c0 := cells_cell (i := 0) b1 (v := .int .i64 (k : Int)) rfl
  have c1 := cells_cell (i := 1) b1 (v := .int .i64 (l : Int)) rfl
  have c2 := cells_cell (i := 2) b1 (v := .int .i64 (c : Int)) rfl
  have c3 := cells_cell (i := 3) b1 (v := .int .i64 (e : Int)) rfl
  obtain ⟨u1, u2, u3, u4, u5, u6, u7, u8, u9, u10, u11, u12⟩ := head_words k c e l hl
  have EV := fun W => evenRef (s := bytes7 k c e l) (L := headN k c e l) rfl (by show 7 ≤ 100; decide) (headN_lt k c e l) (bytes7_at k c e l) W
  rw [headN_even] at EV
  have hfin := bytes7_all k c e l
  have hx : headX k c e l < 256 := headL_lt k c e l _ (List.mem_append_right _ (List.mem_singleton.2 rfl))
  obtain ⟨w3, hw3, e0, -, e1⟩ := allocs1 w2 (.cells #[.int .u8 181, .int .u8 ((k % 256 : Nat) : Int), .int .u8 ((c % 256 : Nat) : Int), .int .u8 ((e % 256 : Nat) : Int), .int .u8 ((l % 256 : Nat) : Int), .int .u8 ((l / 256 % 256 : Nat) : Int), .int .u8 ((l / 256 / 256 % 256 : Nat) : Int)] 5)
  have hcv : (convert 34 9 (.slice (some ⟨w2.heap.size, 0, none⟩) 7 7)).run Tryd.prog w3 = .ok (.string (bytes7 k c e l)) w3 := conv_cells w3 w2.heap.size 7 (headN k c e l) (headN_lt k c e l) (fun j hj => by
    have hj7 : j < 7 := hj
    have : j = 0 ∨ j = 1 ∨ j = 2 ∨ j = 3 ∨ j = 4 ∨ j = 5 ∨ j = 6 := by omega
    rcases this with rfl | rfl | rfl | rfl | rfl | rfl | rfl <;> exact cells_cell e1 rfl)
  have hs7 : (bytes7 k c e l).size = 7 := rfl
  obtain ⟨w4, hw4, f0, -, f1⟩ := allocs1 w3 (.cells #[.int .u8 ((headX k c e l : Nat) : Int)] 5)
  have hcv2 : (convert 34 9 (.slice (some ⟨w3.heap.size, 0, none⟩) 1 1)).run Tryd.prog w4 = .ok (.string ⟨#[UInt8.ofNat (headX k c e l)]⟩) w4 := conv_cells w4 w3.heap.size 1 [headX k c e l] (fun x hx' => by simp at hx'; rw [hx']; exact hx) (fun j hj => by
    obtain rfl : j = 0 := by simpa using hj
    exact cells_cell f1 rfl)
  have hB4 := blH (blH hB2 e0) f0
  have HFI := Lib.hid hfin
  have EV3 := EV w3
  generalize bytes7 k c e l = s7 at *
  generalize headX k c e l = x at *
  generalize k % 256 = b1' at *
  generalize c % 256 = b2 at *
  generalize e % 256 = b3 at *
  generalize l % 256 = b4 at *
  generalize l / 256 / 256 % 256 = b6 at *
  generalize l / 256 % 256 = b5 at *
  generalize l / 65536 = l2 at *
  generalize l / 256 = l1 at *
  clear EV hfin hx e0 e1 f0 f1 hB2 b1 hl
  go_wp2_with fail
  refine EV3.mono ?_
  rintro r w' ⟨rfl, rfl⟩
  clear EV3 c0 c1 c2 c3
  go_wp2
  exact bodyPost_ret (results_tmp2 rfl _ _ _) rfl ⟨by rw [← HFI.out]; rfl, hB4⟩

theorem encodeRef_any {w : World} (k l c e : Int) :
    Calls Tryd.prog 11 #[.agg #[.int .i64 k, .int .i64 l, .int .i64 c, .int .i64 e]] w fun r w' => r = .returned (.tuple #[.string (encI k l c e), .int .i64 (encE k l c e)]) ∧ Below w.heap.size w w' := by
  unfold encI encE
  cases hr : rightM k l c e with
  | false =>
    obtain ⟨w1, hw1, a0, -, a1⟩ := allocs1 w (.cells #[.int .i64 k, .int .i64 l, .int .i64 c, .int .i64 e] 23)
    have R := rightRefH (w := w1) k l c e
    rw [hr] at R
    have c0 := cells_cell (i := 0) a1 (v := .int .i64 k) rfl
    have c1 := cells_cell (i := 1) a1 (v := .int .i64 l) rfl
    have c2 := cells_cell (i := 2) a1 (v := .int .i64 c) rfl
    have c3 := cells_cell (i := 3) a1 (v := .int .i64 e) rfl
    clear hr a1
    go_enter Tryd.func11, Tryd.ntmps11
    go_wp2_with fail
    refine R.mono ?_
    rintro r w2 ⟨rfl, hb2⟩
    have hB2 := blH a0 hb2
    clear R c0 c1 c2 c3 hb2 hw1
    go_wp2
    exact bodyPost_ret (results_tmp2 rfl _ _ _) rfl ⟨rfl, hB2⟩
  | true =>
    obtain ⟨h1, h2, h3, h4, h5, h6, h7, h8⟩ := rightM_iff hr
    obtain ⟨K, rfl⟩ : ∃ K : Nat, k = K := ⟨k.toNat, by omega⟩
    obtain ⟨L, rfl⟩ : ∃ L : Nat, l = L := ⟨l.toNat, by omega⟩
    obtain ⟨C, rfl⟩ : ∃ C : Nat, c = C := ⟨c.toNat, by omega⟩
    obtain ⟨D, rfl⟩ : ∃ D : Nat, e = D := ⟨e.toNat, by omega⟩
    exact encodeRef_right hr (by omega)
end Go.Proofs.YtdhligapadblgaaDoor

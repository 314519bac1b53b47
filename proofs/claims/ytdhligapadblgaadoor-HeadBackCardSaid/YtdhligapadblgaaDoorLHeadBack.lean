/- HeadBack holds of all numbers of blocks, places, heads: the law's own text walked, and the card. -/
import Derived.Test.YtdhligapadblgaaDoorKB3
import Derived.Test.YtdhligapadblgaaDoorCards
import Derived.Test.YtdhligapadblgaaDoorTie
namespace Go.Proofs.YtdhligapadblgaaDoor
open Go Go.RowKit Go.Shelf
attribute [local go_sem ↓] Go.wp_at_zero Go.wp_at_succ

set_option maxHeartbeats 8000000 in
set_option maxRecDepth 20000 in
theorem headBack_law {E : EnvB} {w : World} (hG : GlobB E w) (b a : Int) {k l c e : Int} (hb : (Lit.int .i64 b).wf = true) :
    Calls Tryd.prog 8 #[.int .i64 b, .int .i64 a, .agg #[.int .i64 k, .int .i64 l, .int .i64 c, .int .i64 e]] w fun r w' => r = .returned (.bool true) ∧ Below w.heap.size w w' := by
  obtain ⟨hb1, hb2⟩ := wf_i64 hb
  obtain ⟨w1, hw1, a0, -, b1⟩ := allocs1 w (.cells #[.int .i64 k, .int .i64 l, .int .i64 c, .int .i64 e] 23)
  have hG1 := hG.below a0
  have m1 := shown_anyH hG1.h
  have HG := Lib.hid hG1
  have HGW := Lib.hid hG
  clear hG hG1 hb
  go_enter Tryd.func8, Tryd.ntmps8
  go_wp2_with fail
  refine m1.mono ?_
  rintro r w2 ⟨rfl, hB⟩
  have HG2 := Lib.hid (HG.out.below hB)
  have bb := (hB.block _ (block_lt b1)).trans b1
  have HB2 := Lib.hid (blH a0 hB)
  clear b1 a0 hB m1 hw1 HG
  have c0 := cells_cell (i := 0) bb (v := .int .i64 k) rfl
  have c1 := cells_cell (i := 1) bb (v := .int .i64 l) rfl
  have c2 := cells_cell (i := 2) bb (v := .int .i64 c) rfl
  have c3 := cells_cell (i := 3) bb (v := .int .i64 e) rfl
  have m1 := encode_any HG2.out.h k l c e
  have BB := Lib.hid bb
  clear bb
  go_wp2_with fail
  refine m1.mono ?_
  rintro r w3 ⟨rfl, hb⟩
  have HG3 := Lib.hid (HG2.out.below hb)
  have bb := (hb.block _ (block_lt BB.out)).trans BB.out
  have HB3 := Lib.hid (blH HB2.out hb)
  have m1 := decode_any HG3.out.h (encI k l c e)
  have BB3 := Lib.hid bb
  clear c0 c1 c2 c3 bb hb HG2 HB2 BB
  cases hr : rightM k l c e with
  | false =>
    have hE : encE k l c e = 60 := by unfold encE; rw [hr]; rfl
    have hI : encI k l c e = ⟨#[]⟩ := by unfold encI; rw [hr]; rfl
    have hd : decB (⟨#[]⟩ : ByteArray) = false := by unfold decB; rfl
    rw [hI] at m1 ⊢
    rw [hE]
    unfold decE decX at m1
    rw [hd, cond_false, cond_false, cond_false, cond_false, cond_false] at m1
    clear hE hI hd
    go_wp2_with fail
    refine m1.mono ?_
    rintro r w4 ⟨rfl, hb⟩
    have HG4 := Lib.hid (HG3.out.below hb)
    have bb := (hb.block _ (block_lt BB3.out)).trans BB3.out
    have hlt := block_lt bb
    have c0 := cells_cell (i := 0) bb (v := .int .i64 k) rfl
    have c1 := cells_cell (i := 1) bb (v := .int .i64 l) rfl
    have c2 := cells_cell (i := 2) bb (v := .int .i64 c) rfl
    have c3 := cells_cell (i := 3) bb (v := .int .i64 e) rfl
    obtain ⟨w5, hw5, e0, -, e1⟩ := allocs1 w4 (.cells #[.int .i64 0, .int .i64 0, .int .i64 0, .int .i64 0] 23)
    have HG5 := Lib.hid (HG4.out.below e0)
    have HB5 := Lib.hid (blH (blH HB3.out hb) e0)
    have BB5 := Lib.hid ((e0.block _ hlt).trans bb)
    have HW5 := Lib.hid hw5
    clear m1 hb bb e0 e1 HG4 HB3 BB3 HG3 hw5
    by_cases hk : b < 1 ∨ 32 < b
    · have m1 := new_no HG5.out.n b hb1 hb2 hk
      clear hk hb1 hb2
      go_wp2_with fail
      rw [HW5.out]
      refine m1.mono ?_
      rintro r w6 ⟨rfl, hb⟩
      have HB6 := Lib.hid (blH HB5.out hb)
      clear m1 hb
      go_wp2
      go_ret
      exact ⟨rfl, HB6.out⟩
    obtain ⟨kb, rfl⟩ : ∃ kb : Nat, b = kb := ⟨b.toNat, by omega⟩
    have m1 := new_yes HG5.out.n kb (by omega) (by omega)
    generalize 4096 * kb = N at *
    clear hk hb1 hb2
    go_wp2_with fail
    rw [HW5.out]
    clear c0 c1 c2 c3 hlt
    refine m1.mono ?_
    rintro r w6 ⟨⟨p, g, rfl, hp, hg, hA⟩, hb⟩
    have HG6 := Lib.hid (HG5.out.below hb)
    have HB6 := Lib.hid (blH HB5.out hb)
    have bb := (hb.block _ (block_lt BB5.out)).trans BB5.out
    have HBB := Lib.hid bb
    have hlt5 := block_lt BB5.out
    have hge : w.heap.size ≤ g := Nat.le_trans HB5.out.size hg
    have hneg : w.heap.size ≠ g := by omega
    have HA6 := Lib.hid hA
    clear m1 hp hg hA hb HW5 HB5 BB5 HG5 hlt5
    have c0 := cells_cell (i := 0) bb (v := .int .i64 k) rfl
    have c1 := cells_cell (i := 1) bb (v := .int .i64 l) rfl
    have c2 := cells_cell (i := 2) bb (v := .int .i64 c) rfl
    have c3 := cells_cell (i := 3) bb (v := .int .i64 e) rfl
    have P := putH_any HG6.out.h HG6.out.n HA6.out a k l c e
    have HG0 := HGW
    rw [show putHE N a k l c e = 60 by unfold putHE; rw [hr]; rfl, show putHF N (fun _ => 0) a k l c e = (fun _ => 0) by unfold putHF; rw [hr]; rfl] at P
    clear bb
    go_wp2_with fail
    refine P.mono ?_
    rintro r w7 ⟨rfl, hA, hg⟩
    have hb7 := below_grown HB6.out HB6.out.size hge hg
    have HG7 := Lib.hid (HG0.out.below hb7)
    have bb := grown_block hg hneg HBB.out
    have Q := getH_any HG7.out.h HG7.out.n hA a
    have HB7 := Lib.hid hb7
    have HA7 := Lib.hid hA
    have HB7b := Lib.hid bb
    clear P c0 c1 c2 c3 hg hb7 hA bb HG6 HB6 HA6 HBB
    go_wp2_with fail
    refine Q.mono ?_
    rintro r w8 ⟨rfl, hb⟩
    have HG8 := Lib.hid (HG7.out.below hb)
    have HB8 := Lib.hid (blH HB7.out hb)
    have HA8 := Lib.hid (HA7.out.next hb)
    have bb := (hb.block _ (block_lt HB7b.out)).trans HB7b.out
    have hlt := block_lt bb
    have c0 := cells_cell (i := 0) bb (v := .int .i64 k) rfl
    have c1 := cells_cell (i := 1) bb (v := .int .i64 l) rfl
    have c2 := cells_cell (i := 2) bb (v := .int .i64 c) rfl
    have c3 := cells_cell (i := 3) bb (v := .int .i64 e) rfl
    generalize decX (getB N (fun _ => 0) a) (decK (readN N (fun _ => 0) a 8)) = y0 at *
    generalize decX (getB N (fun _ => 0) a) (decL (readN N (fun _ => 0) a 8)) = y1 at *
    generalize decX (getB N (fun _ => 0) a) (decC (readN N (fun _ => 0) a 8)) = y2 at *
    generalize decX (getB N (fun _ => 0) a) (decT (readN N (fun _ => 0) a 8)) = y3 at *
    generalize getE N (fun _ => 0) a = y4 at *
    obtain ⟨w9, hw9, e0, -, e1⟩ := allocs1 w8 (.cells #[.int .i64 y0, .int .i64 y1, .int .i64 y2, .int .i64 y3] 23)
    have R := right_anyH (HG8.out.below e0).h k l c e
    rw [hr] at R
    have HB9 := Lib.hid (blH HB8.out e0)
    have HA9 := Lib.hid (HA8.out.next e0)
    have bb9 := (e0.block _ hlt).trans bb
    have d0 := cells_cell (i := 0) bb9 (v := .int .i64 k) rfl
    have d1 := cells_cell (i := 1) bb9 (v := .int .i64 l) rfl
    have d2 := cells_cell (i := 2) bb9 (v := .int .i64 c) rfl
    have d3 := cells_cell (i := 3) bb9 (v := .int .i64 e) rfl
    clear Q hb bb e0 e1 bb9 HG7 HB7 HA7 HB7b HG8 HA8 HB8
    go_wp2_with fail
    refine R.mono ?_
    rintro r w10 ⟨rfl, hb⟩
    have K := count_N (HA9.out.next hb)
    rw [cnt_none] at K
    have HB10 := Lib.hid (blH HB9.out hb)
    clear R hb c0 c1 c2 c3 d0 d1 d2 d3 HA9 HB9 hlt hw9
    go_wp2_with fail
    refine K.mono ?_
    rintro r w11 ⟨rfl, hb⟩
    have HB11 := Lib.hid (blH HB10.out hb)
    clear K hb HB10
    go_wp2
    go_ret
    exact ⟨rfl, HB11.out⟩
  | true =>
    have hE : encE k l c e = 0 := by unfold encE; rw [hr]; rfl
    have hd : decB (encI k l c e) = true := decB_enc hr
    obtain ⟨x1, x2, x3, x4⟩ := dec_enc hr
    have h8 : (encI k l c e).size = 8 := encI_size hr
    rw [hE]
    unfold decE decX at m1
    rw [hd, cond_true, cond_true, cond_true, cond_true, cond_true, x1, x2, x3, x4] at m1
    have HX := Lib.hid (And.intro x1 (And.intro x2 (And.intro x3 x4)))
    have HD := Lib.hid hd
    have H8 := Lib.hid h8
    have h8i : ((encI k l c e).size : Int) = 8 := by omega
    generalize hS : encI k l c e = s at *
    have HS := Lib.hid hS
    clear hE hd x1 x2 x3 x4 hS h8
    go_wp2_with fail
    refine m1.mono ?_
    rintro r w4 ⟨rfl, hb⟩
    have HG4 := Lib.hid (HG3.out.below hb)
    have bb := (hb.block _ (block_lt BB3.out)).trans BB3.out
    have hlt := block_lt bb
    have c0 := cells_cell (i := 0) bb (v := .int .i64 k) rfl
    have c1 := cells_cell (i := 1) bb (v := .int .i64 l) rfl
    have c2 := cells_cell (i := 2) bb (v := .int .i64 c) rfl
    have c3 := cells_cell (i := 3) bb (v := .int .i64 e) rfl
    obtain ⟨w5, hw5, e0, -, e1⟩ := allocs1 w4 (.cells #[.int .i64 k, .int .i64 l, .int .i64 c, .int .i64 e] 23)
    have HG5 := Lib.hid (HG4.out.below e0)
    have HB5 := Lib.hid (blH (blH HB3.out hb) e0)
    have BB5 := Lib.hid ((e0.block _ hlt).trans bb)
    have HW5 := Lib.hid hw5
    clear m1 hb bb e0 e1 HG4 HB3 BB3 HG3 hw5
    by_cases hk : b < 1 ∨ 32 < b
    · have m1 := new_no HG5.out.n b hb1 hb2 hk
      clear hk hb1 hb2
      go_wp2_with fail
      rw [HW5.out]
      refine m1.mono ?_
      rintro r w6 ⟨rfl, hb⟩
      have HB6 := Lib.hid (blH HB5.out hb)
      clear m1 hb
      go_wp2
      go_ret
      exact ⟨rfl, HB6.out⟩
    obtain ⟨kb, rfl⟩ : ∃ kb : Nat, b = kb := ⟨b.toNat, by omega⟩
    have m1 := new_yes HG5.out.n kb (by omega) (by omega)
    generalize 4096 * kb = N at *
    clear hk hb1 hb2
    go_wp2_with fail
    rw [HW5.out]
    clear c0 c1 c2 c3 hlt
    refine m1.mono ?_
    rintro r w6 ⟨⟨p, g, rfl, hp, hg, hA⟩, hb⟩
    have HG6 := Lib.hid (HG5.out.below hb)
    have HB6 := Lib.hid (blH HB5.out hb)
    have bb := (hb.block _ (block_lt BB5.out)).trans BB5.out
    have HBB := Lib.hid bb
    have hlt5 := block_lt BB5.out
    have hge : w.heap.size ≤ g := Nat.le_trans HB5.out.size hg
    have hneg : w.heap.size ≠ g := by omega
    have HA6 := Lib.hid hA
    clear m1 hp hg hA hb HW5 HB5 BB5 HG5 hlt5
    have c0 := cells_cell (i := 0) bb (v := .int .i64 k) rfl
    have c1 := cells_cell (i := 1) bb (v := .int .i64 l) rfl
    have c2 := cells_cell (i := 2) bb (v := .int .i64 c) rfl
    have c3 := cells_cell (i := 3) bb (v := .int .i64 e) rfl
    have P := putH_any HG6.out.h HG6.out.n HA6.out a k l c e
    have HG0 := HGW
    cases ha : mul8 a with
    | false =>
      rw [show putHE N a k l c e = 10 by unfold putHE; rw [hr, ha]; rfl, show putHF N (fun _ => 0) a k l c e = (fun _ => 0) by unfold putHF; rw [hr, ha]; rfl] at P
      clear bb
      go_wp2_with fail
      refine P.mono ?_
      rintro r w7 ⟨rfl, hA, hg⟩
      have hb7 := below_grown HB6.out HB6.out.size hge hg
      have HG7 := Lib.hid (HG0.out.below hb7)
      have bb := grown_block hg hneg HBB.out
      have Q := getH_any HG7.out.h HG7.out.n hA a
      have HB7 := Lib.hid hb7
      have HA7 := Lib.hid hA
      have HB7b := Lib.hid bb
      clear P c0 c1 c2 c3 hg hb7 hA bb HG6 HB6 HA6 HBB
      go_wp2_with fail
      refine Q.mono ?_
      rintro r w8 ⟨rfl, hb⟩
      have HG8 := Lib.hid (HG7.out.below hb)
      have HB8 := Lib.hid (blH HB7.out hb)
      have HA8 := Lib.hid (HA7.out.next hb)
      have bb := (hb.block _ (block_lt HB7b.out)).trans HB7b.out
      have hlt := block_lt bb
      have c0 := cells_cell (i := 0) bb (v := .int .i64 k) rfl
      have c1 := cells_cell (i := 1) bb (v := .int .i64 l) rfl
      have c2 := cells_cell (i := 2) bb (v := .int .i64 c) rfl
      have c3 := cells_cell (i := 3) bb (v := .int .i64 e) rfl
      generalize decX (getB N (fun _ => 0) a) (decK (readN N (fun _ => 0) a 8)) = y0 at *
      generalize decX (getB N (fun _ => 0) a) (decL (readN N (fun _ => 0) a 8)) = y1 at *
      generalize decX (getB N (fun _ => 0) a) (decC (readN N (fun _ => 0) a 8)) = y2 at *
      generalize decX (getB N (fun _ => 0) a) (decT (readN N (fun _ => 0) a 8)) = y3 at *
      generalize getE N (fun _ => 0) a = y4 at *
      obtain ⟨w9, hw9, e0, -, e1⟩ := allocs1 w8 (.cells #[.int .i64 y0, .int .i64 y1, .int .i64 y2, .int .i64 y3] 23)
      have R := right_anyH (HG8.out.below e0).h k l c e
      rw [hr] at R
      have HB9 := Lib.hid (blH HB8.out e0)
      have HA9 := Lib.hid (HA8.out.next e0)
      have bb9 := (e0.block _ hlt).trans bb
      have d0 := cells_cell (i := 0) bb9 (v := .int .i64 k) rfl
      have d1 := cells_cell (i := 1) bb9 (v := .int .i64 l) rfl
      have d2 := cells_cell (i := 2) bb9 (v := .int .i64 c) rfl
      have d3 := cells_cell (i := 3) bb9 (v := .int .i64 e) rfl
      clear Q hb bb e0 e1 bb9 HG7 HB7 HA7 HB7b HG8 HA8 HB8
      go_wp2_with fail
      refine R.mono ?_
      rintro r w10 ⟨rfl, hb⟩
      have K := count_N (HA9.out.next hb)
      rw [cnt_none] at K
      have HB10 := Lib.hid (blH HB9.out hb)
      clear R hb c0 c1 c2 c3 d0 d1 d2 d3 HA9 HB9 hlt hw9
      go_wp2_with fail
      refine K.mono ?_
      rintro r w11 ⟨rfl, hb⟩
      have HB11 := Lib.hid (blH HB10.out hb)
      clear K hb HB10
      go_wp2
      go_ret
      exact ⟨rfl, HB11.out⟩
    | true =>
      cases hin : inB N a 8 with
      | false =>
        rw [show putHE N a k l c e = 10 by unfold putHE; rw [hr, ha, cond_true, cond_true, chk8_code, hin]; rfl, show putHF N (fun _ => 0) a k l c e = (fun _ => 0) by unfold putHF writeF; rw [hr, ha, HS.out, H8.out]; show (bif inB N a 8 then _ else _) = _; rw [hin]; rfl] at P
        clear bb
        go_wp2_with fail
        refine P.mono ?_
        rintro r w7 ⟨rfl, hA, hg⟩
        have hb7 := below_grown HB6.out HB6.out.size hge hg
        have HG7 := Lib.hid (HG0.out.below hb7)
        have bb := grown_block hg hneg HBB.out
        have Q := getH_any HG7.out.h HG7.out.n hA a
        have HB7 := Lib.hid hb7
        have HA7 := Lib.hid hA
        have HB7b := Lib.hid bb
        clear P c0 c1 c2 c3 hg hb7 hA bb HG6 HB6 HA6 HBB
        go_wp2_with fail
        refine Q.mono ?_
        rintro r w8 ⟨rfl, hb⟩
        have HG8 := Lib.hid (HG7.out.below hb)
        have HB8 := Lib.hid (blH HB7.out hb)
        have HA8 := Lib.hid (HA7.out.next hb)
        have bb := (hb.block _ (block_lt HB7b.out)).trans HB7b.out
        have hlt := block_lt bb
        have c0 := cells_cell (i := 0) bb (v := .int .i64 k) rfl
        have c1 := cells_cell (i := 1) bb (v := .int .i64 l) rfl
        have c2 := cells_cell (i := 2) bb (v := .int .i64 c) rfl
        have c3 := cells_cell (i := 3) bb (v := .int .i64 e) rfl
        generalize decX (getB N (fun _ => 0) a) (decK (readN N (fun _ => 0) a 8)) = y0 at *
        generalize decX (getB N (fun _ => 0) a) (decL (readN N (fun _ => 0) a 8)) = y1 at *
        generalize decX (getB N (fun _ => 0) a) (decC (readN N (fun _ => 0) a 8)) = y2 at *
        generalize decX (getB N (fun _ => 0) a) (decT (readN N (fun _ => 0) a 8)) = y3 at *
        generalize getE N (fun _ => 0) a = y4 at *
        obtain ⟨w9, hw9, e0, -, e1⟩ := allocs1 w8 (.cells #[.int .i64 y0, .int .i64 y1, .int .i64 y2, .int .i64 y3] 23)
        have R := right_anyH (HG8.out.below e0).h k l c e
        rw [hr] at R
        have HB9 := Lib.hid (blH HB8.out e0)
        have HA9 := Lib.hid (HA8.out.next e0)
        have bb9 := (e0.block _ hlt).trans bb
        have d0 := cells_cell (i := 0) bb9 (v := .int .i64 k) rfl
        have d1 := cells_cell (i := 1) bb9 (v := .int .i64 l) rfl
        have d2 := cells_cell (i := 2) bb9 (v := .int .i64 c) rfl
        have d3 := cells_cell (i := 3) bb9 (v := .int .i64 e) rfl
        clear Q hb bb e0 e1 bb9 HG7 HB7 HA7 HB7b HG8 HA8 HB8
        go_wp2_with fail
        refine R.mono ?_
        rintro r w10 ⟨rfl, hb⟩
        have K := count_N (HA9.out.next hb)
        rw [cnt_none] at K
        have HB10 := Lib.hid (blH HB9.out hb)
        clear R hb c0 c1 c2 c3 d0 d1 d2 d3 HA9 HB9 hlt hw9
        go_wp2_with fail
        refine K.mono ?_
        rintro r w11 ⟨rfl, hb⟩
        have HB11 := Lib.hid (blH HB10.out hb)
        clear K hb HB10
        go_wp2
        go_ret
        exact ⟨rfl, HB11.out⟩
      | true =>
        rw [show putHE N a k l c e = 0 by unfold putHE; rw [hr, ha, cond_true, cond_true, chk8_code, hin]; rfl, show putHF N (fun _ => 0) a k l c e = writeF N (fun _ => 0) a s by unfold putHF; rw [hr, ha, HS.out]; rfl] at P
        clear bb
        go_wp2_with fail
        refine P.mono ?_
        rintro r w7 ⟨rfl, hA, hg⟩
        have hb7 := below_grown HB6.out HB6.out.size hge hg
        have HG7 := Lib.hid (HG0.out.below hb7)
        have bb := grown_block hg hneg HBB.out
        have Q := getH_any HG7.out.h HG7.out.n hA a
        have HB7 := Lib.hid hb7
        have HA7 := Lib.hid hA
        have HB7b := Lib.hid bb
        clear P c0 c1 c2 c3 hg hb7 hA bb HG6 HB6 HA6 HBB
        go_wp2_with fail
        refine Q.mono ?_
        rintro r w8 ⟨rfl, hb⟩
        have HG8 := Lib.hid (HG7.out.below hb)
        have HB8 := Lib.hid (blH HB7.out hb)
        have HA8 := Lib.hid (HA7.out.next hb)
        have bb := (hb.block _ (block_lt HB7b.out)).trans HB7b.out
        have hlt := block_lt bb
        have c0 := cells_cell (i := 0) bb (v := .int .i64 k) rfl
        have c1 := cells_cell (i := 1) bb (v := .int .i64 l) rfl
        have c2 := cells_cell (i := 2) bb (v := .int .i64 c) rfl
        have c3 := cells_cell (i := 3) bb (v := .int .i64 e) rfl
        have hrp : readN N (writeF N (fun _ => 0) a s) a 8 = s := read_put H8.out hin
        have hgb : getB N (writeF N (fun _ => 0) a s) a = true := by unfold getB; rw [ha, hin, hrp, HD.out]; rfl
        have hge2 : getE N (writeF N (fun _ => 0) a s) a = 0 := by unfold getE; rw [ha, hin, hrp, HD.out]; rfl
        rw [hgb, hge2, hrp]
        unfold decX
        rw [cond_true, cond_true, cond_true, cond_true, HX.out.1, HX.out.2.1, HX.out.2.2.1, HX.out.2.2.2]
        obtain ⟨w9, hw9, e0, -, e1⟩ := allocs1 w8 (.cells #[.int .i64 k, .int .i64 l, .int .i64 c, .int .i64 e] 23)
        have HB9 := Lib.hid (blH HB8.out e0)
        have R := read_N (HG8.out.below e0).n (HA8.out.next e0) a 8
        rw [chk8_code, hin, cond_true, hrp] at R
        have bb9 := (e0.block _ hlt).trans bb
        have d0 := cells_cell (i := 0) bb9 (v := .int .i64 k) rfl
        have d1 := cells_cell (i := 1) bb9 (v := .int .i64 l) rfl
        have d2 := cells_cell (i := 2) bb9 (v := .int .i64 c) rfl
        have d3 := cells_cell (i := 3) bb9 (v := .int .i64 e) rfl
        have g8 : a.tmod 8 = 0 := of_decide_eq_true ha
        have HW9 := Lib.hid hw9
        have x0 := cells_cell (i := 0) e1 (v := .int .i64 k) rfl
        have x1 := cells_cell (i := 1) e1 (v := .int .i64 l) rfl
        have x2 := cells_cell (i := 2) e1 (v := .int .i64 c) rfl
        have x3 := cells_cell (i := 3) e1 (v := .int .i64 e) rfl
        clear Q hb bb e0 e1 bb9 HG7 HB7 HA7 HB7b HG8 HA8 HB8 hrp hgb hge2 hw9 c0 c1 c2 c3 hlt HX HD
        go_wp2_with fail
        rw [HW9.out]
        refine R.mono ?_
        rintro r w' ⟨rfl, rfl⟩
        clear R
        go_wp2
        go_ret
        exact ⟨rfl, HB9.out⟩
end Go.Proofs.YtdhligapadblgaaDoor

namespace Go.Proofs.YtdhligapadblgaaDoor.lawHeadBack
open Go.ChangeShapes Go.WideShapes Go.ChangeAt Go.RowKit
theorem gnN : Tryd.prog.globalNamed "selion/arena.errNil" = some 6 := by kernel_rfl
theorem gnG : Tryd.prog.globalNamed "selion/arena.errArg" = some 2 := by kernel_rfl
theorem gnD : Tryd.prog.globalNamed "selion/arena.errAddr" = some 7 := by kernel_rfl
theorem gnA : Tryd.prog.globalNamed "selion/addr.errAddr" = some 5 := by kernel_rfl
theorem gtN : (Tryd.prog.globals[6]?).map (·.type) = some 57 := by kernel_rfl
theorem gtG : (Tryd.prog.globals[2]?).map (·.type) = some 57 := by kernel_rfl
theorem gtD : (Tryd.prog.globals[7]?).map (·.type) = some 57 := by kernel_rfl
theorem gtA : (Tryd.prog.globals[5]?).map (·.type) = some 57 := by kernel_rfl
/-- What this row lists. -/
def laidL : List (String × DataW Unit) := [("selion/addr.errAddr", Rows.laid_selion_addr_errAddr), ("selion/addr.errSize", Rows.laid_selion_addr_errSize), ("selion/addr.errRef", Rows.laid_selion_addr_errRef), ("selion/arena.errNil", Rows.laid_selion_arena_errNil), ("selion/arena.errArg", Rows.laid_selion_arena_errArg), ("selion/arena.errAddr", Rows.laid_selion_arena_errAddr), ("selion/head.errNil", Rows.laid_selion_head_errNil), ("selion/head.errHead", Rows.laid_selion_head_errHead), ("selion/head.errAddr", Rows.laid_selion_head_errAddr), ("selion/head.parts", Rows.laid_selion_head_parts)]

set_option maxRecDepth 20000 in
theorem glob_of_laid {W : World} (h : laidMetH Tryd.prog laidL W) : ∃ E, GlobB E W := by
  have h0 : laidMet Tryd.prog laidL W := h
  have hu := Tryd.underlying57
  have s7 : (Go.Proofs.YtdhligapadblgaaDoor.laidL).Sublist laidL := by
    unfold laidL Go.Proofs.YtdhligapadblgaaDoor.laidL; exact .cons _ (.cons _ (.cons _ (List.Sublist.refl _)))
  obtain ⟨EH, hH⟩ := Go.Proofs.YtdhligapadblgaaDoor.glob_of_laid (W := W) (laidMet_sublist h0 s7)
  obtain ⟨aA, sA⟩ := sent_one h0 gnA gtA hu pesRow Tryd.underlying107 Tryd.underlying132 rfl rfl Tryd.underlying9 esCells strCells
  have s3 : [("selion/arena.errNil", Rows.laid_selion_arena_errNil (H := Unit)), ("selion/arena.errArg", Rows.laid_selion_arena_errArg), ("selion/arena.errAddr", Rows.laid_selion_arena_errAddr)].Sublist laidL := by
    unfold laidL
    exact .cons _ (.cons _ (.cons _ (.cons_cons _ (.cons_cons _ (.cons_cons _ (List.nil_sublist _))))))
  have h1 := laidMet_sublist h0 s3
  clear h0 h
  obtain ⟨aN, sN⟩ := sent_one h1 gnN gtN hu pesRow Tryd.underlying107 Tryd.underlying132 rfl rfl Tryd.underlying9 esCells strCells
  obtain ⟨aG, sG⟩ := sent_one (laidMet_sublist h1 (.cons _ (List.Sublist.refl _))) gnG gtG hu pesRow Tryd.underlying107 Tryd.underlying132 rfl rfl Tryd.underlying9 esCells strCells
  obtain ⟨aD, sD⟩ := sent_one (laidMet_sublist h1 (.cons _ (.cons _ (List.Sublist.refl _)))) gnD gtD hu pesRow Tryd.underlying107 Tryd.underlying132 rfl rfl Tryd.underlying9 esCells strCells
  have n1 := sent_ne h1 gnN gtN gnG gtG hu pesRow Tryd.underlying107 Tryd.underlying132 rfl rfl Tryd.underlying9 esCells strCells sN sG
  have n2 := sent_ne (laidMet_sublist h1 (.cons_cons _ (.cons _ (List.Sublist.refl _)))) gnN gtN gnD gtD hu pesRow Tryd.underlying107 Tryd.underlying132 rfl rfl Tryd.underlying9 esCells strCells sN sD
  have n3 := sent_ne (laidMet_sublist h1 (.cons _ (List.Sublist.refl _))) gnG gtG gnD gtD hu pesRow Tryd.underlying107 Tryd.underlying132 rfl rfl Tryd.underlying9 esCells strCells sG sD
  exact ⟨⟨EH, ⟨aN, aG, aD, aA⟩⟩, hH, sN.cell, sG.cell, sD.cell, sA.cell, sN.block, sG.block, sD.block, n1, n2, n3⟩

/-- The heap that the initialisers leave meets the condition. -/
theorem door_met (os : Os) (args : Array Value) : laidMetH Tryd.prog laidL ((World.doorLaid Tryd.prog 189 os).forCall (fun _ _ => 0) ⟨#[], args, []⟩).memory :=
  laidMetH_of_parts3 (fuel := 8) (laidMet_of_run' 8 (by kernel_rfl) (by kernel_rfl)) (by kernel_rfl) (by kernel_rfl)
end Go.Proofs.YtdhligapadblgaaDoor.lawHeadBack

namespace Go.Proofs.YtdhligapadblgaaDoor.lawHeadBack
open Go.ChangeShapes Go.WideShapes Go.ChangeAt Go.RowKit
set_option maxRecDepth 100000 in
theorem told (H : Type) (enc : TypeId × Value → H) (W : World) (base : Nat) (args : Array Value) (ds gs : List (DataW H)) (before : List MemPlace)
    (hval : ∀ (j : Nat) t v, Tryd.f8.params[j]? = some t → args[j]? = some v → Value.okWide Tryd.prog W .any base t v)
    (hW : DataW.Whole enc Tryd.prog Tryd.f8.params.toList Rows.headBackSpec.vars false W args.toList ds gs before) (hL : laidMetH Tryd.prog laidL W) :
    Calls Tryd.prog 8 args W fun e W' => ∃ v, e = .returned v ∧ Rows.headBackSpec.post enc Tryd.prog Tryd.f8 false true false false W args v W' := by
  have hW' := hW
  obtain ⟨p, q, hA0, hV, rfl, hfz, hnd⟩ := hW
  have hA : DataW.TrodAll enc Tryd.prog W 0 (fun _ => true) true Tryd.f8.params.toList args.toList ds p := hA0
  rw [Tryd.params8] at hA hval
  obtain ⟨v0, vs0, d0, ds0, p0, q0, hargs, rfl, rfl, h0, r0⟩ := trodAll_cons hA
  obtain ⟨v1, vs1, d1, ds1, p1, q1, rfl, rfl, rfl, h1, r1⟩ := trodAll_cons r0
  obtain ⟨v2, vs2, d2, ds2, p2, q2, rfl, rfl, rfl, h2, r2⟩ := trodAll_cons r1
  obtain ⟨rfl, rfl, rfl⟩ := trodAll_nil r2
  obtain rfl : args = #[v0, v1, v2] := by cases args; simp_all
  obtain ⟨rfl, rfl⟩ := trodVars_none hV
  have k0 := h0
  have k1 := h1
  have k2 := h2
  obtain ⟨x0, rfl, rfl, rfl, wx0⟩ := open_int Tryd.underlying3 (hval 0 3 v0 rfl rfl) h0
  obtain ⟨x1, rfl, rfl, rfl, wx1⟩ := open_int Tryd.underlying3 (hval 1 3 v1 rfl rfl) h1
  obtain ⟨k2x, l2x, c2x, e2x, rfl⟩ := mark_open (hval 2 23 v2 rfl rfl) h2
  clear hA0
  simp only [List.append_nil] at hW'
  obtain ⟨E, hGl⟩ := glob_of_laid hL
  refine (headBack_law hGl x0 x1 wx0).mono fun e W' ⟨he, hb⟩ => ?_
  subst he
  have hlt := hW'.lt
  have harg0 := Below.trod laidOut (by kernel_rfl) (of_decide_eq_true (by kernel_rfl)) k0 hb (fun y hy => by first | (cases hy; done) | (simpa using hlt y (by simp [hy])))
  have harg1 := Below.trod laidOut (by kernel_rfl) (of_decide_eq_true (by kernel_rfl)) k1 hb (fun y hy => by first | (cases hy; done) | (simpa using hlt y (by simp [hy])))
  have harg2 := Below.trod laidOut (by kernel_rfl) (of_decide_eq_true (by kernel_rfl)) k2 hb (fun y hy => by first | (cases hy; done) | (simpa using hlt y (by simp [hy])))
  exact ⟨_, rfl, _, _, _, [], _, [], hW', trodAll_cons_mk (shut_bool Tryd.underlying4 _) trodAll_mk0, (trodAll_cons_mk harg0 (trodAll_cons_mk harg1 (trodAll_cons_mk harg2 trodAll_mk0))), rfl, hb.frame _, fun h => by cases h⟩

set_option maxRecDepth 100000 in
theorem lifted (os : Os) (started : os.Started) (H : Type) (enc : TypeId × Value → H) :
    ReturnsInHanded {} Tryd.checked os 8 .any (fun w args => (Rows.headBackSpec.pre enc Tryd.prog Tryd.f8 [] false w args ∧ laidMetH Tryd.prog laidL w) ∧ sizedMet enc Tryd.prog Tryd.f8 (OpenSpec.ofChange Rows.headBackSpec) false w args)
      (Rows.headBackSpec.post enc Tryd.prog Tryd.f8 false true false false) := by
  refine returnsInHanded_of_change_and (C := Tryd.checked) (X := fun w _ => laidMetH Tryd.prog laidL w) (fun _ _ _ hh h => h.of_heap hh) own started (by kernel_rfl) Tryd.func8
    (ChangeSpec.witness_shaped (enc := enc) (C := Tryd.checked) (os := os) (X := fun w _ => laidMetH Tryd.prog laidL w) false (World.doorLaid Tryd.prog 189 os) #[.int .i64 0, .int .i64 0, .agg #[.int .i64 0, .int .i64 0, .int .i64 0, .int .i64 0]] 8 rfl (World.shaped_of_RefB (by kernel_rfl) (by kernel_rfl)) (by kernel_rfl) (by kernel_rfl) (by kernel_rfl) (door_met os _)) ?_
  intro W base args ds gs before hval hW _ _ hL _
  exact told H enc W base args ds gs before hval hW hL

theorem said : Rows.HeadBackSaid :=
  OpenClaim.holds_of_wide 8 Tryd.f8 rfl rfl rfl rfl rfl rfl rfl ⟨rfl, rfl, rfl, rfl, rfl⟩ rfl rfl rfl rfl rfl (by kernel_rfl) Tryd.func8 (by kernel_rfl)
    (of_decide_eq_true (by kernel_rfl)) (by unfold Func.isWrapper; first | (rw [if_pos (by decide +kernel)]; kernel_rfl) | (rw [if_neg (by decide +kernel)]; exact ⟨rfl, rfl⟩))
    (fun os started H enc _ => lifted os started H enc)

theorem plain (f : FuncId) (fn : Func) (hf : Tryd.pinned.checked.prog.funcNamed "selion/selionlaw06.HeadBack" = some f) (hfn : Tryd.pinned.checked.prog.funcs[f]? = some fn) :
    true = Tryd.pinned.checked.prog.looks [] ∧ ∀ (j : Nat) t, fn.params[j]? = some t → Tryd.pinned.checked.prog.wantsStandIn t = false := by
  obtain rfl : f = 8 := Option.some.inj ((show Tryd.prog.funcNamed "selion/selionlaw06.HeadBack" = some 8 by kernel_rfl).symm.trans hf) |>.symm
  obtain rfl : fn = Tryd.f8 := (Option.some.inj (Tryd.func8.symm.trans hfn)).symm
  refine ⟨by kernel_rfl, fun j t ht => ?_⟩
  have hm : t ∈ Tryd.f8.params := Array.mem_of_getElem? ht
  rw [Tryd.params8] at hm
  have hm' : t = 3 ∨ t = 23 := by simpa using hm
  rcases hm' with rfl | rfl
  · exact (show Tryd.prog.wantsStandIn 3 = false by kernel_rfl)
  · exact (show Tryd.prog.wantsStandIn 23 = false by kernel_rfl)

/-- THE CARD. -/
theorem card : Rows.HeadBackCardSaid :=
  Claim7.holds_tied_plain_at .later [] _ _ _ _ said (fun _ h => by cases h) (by kernel_rfl) (fun _ h => by cases h) headBack_row_tie rfl ⟨rfl, rfl⟩ (by kernel_rfl) rfl plain (by kernel_rfl)
end Go.Proofs.YtdhligapadblgaaDoor.lawHeadBack

/- HeadPuts holds of all numbers of blocks, places, heads, texts: the law's own text walked, and the card. -/
import Derived.Test.YtdhligapadblgaaDoorKR1
import Derived.Test.YtdhligapadblgaaDoorK12
import Derived.Test.YtdhligapadblgaaDoorCards
import Derived.Test.YtdhligapadblgaaDoorTie
namespace Go.Proofs.YtdhligapadblgaaDoor
open Go Go.RowKit Go.Shelf
attribute [local go_sem ↓] Go.wp_at_zero Go.wp_at_succ

theorem ArenaV.apartR {W W' : World} {p g g' n : Nat} {f : Nat → Nat} (h : ArenaV W p g n f) (hb : W.grownBy W' (some g')) (hp : p ≠ g') (hg : g ≠ g') : ArenaV W' p g n f :=
  ⟨grown_block hb hp h.box, h.arr.same (hb.block _ h.arr.lt (fun e => hg (Option.some.inj e))), h.ne⟩

/-- The head's box and the two arenas. -/
structure P6 (E : EnvB) (w : World) (o : Obj) (p g p2 g2 N : Nat) (f f2 : Nat → Nat) (W : World) : Prop where
  below : Below w.heap.size w W
  glob : GlobB E W
  box : W.heap[w.heap.size]? = some o
  real : ArenaV W p g N f
  ref : RefV W p2 g2 N f2
  hg : w.heap.size < g
  hg2 : w.heap.size < g2
  ne : (p2 ≠ g ∧ g2 ≠ g) ∧ (p ≠ g2 ∧ g ≠ g2)
theorem P6.read {E : EnvB} {w : World} {o : Obj} {p g p2 g2 N : Nat} {f f2 : Nat → Nat} {W W' : World} (h : P6 E w o p g p2 g2 N f f2 W) (hb : Below W.heap.size W W') : P6 E w o p g p2 g2 N f f2 W' :=
  ⟨blH h.below hb, h.glob.below hb, (hb.block _ (block_lt h.box)).trans h.box, h.real.next hb, h.ref.next hb, h.hg, h.hg2, h.ne⟩
theorem P6.wreal {E : EnvB} {w : World} {o : Obj} {p g p2 g2 N : Nat} {f f2 f' : Nat → Nat} {W W' : World} (h : P6 E w o p g p2 g2 N f f2 W) (hG : GlobB E w) (hA : ArenaV W' p g N f') (hb : W.grownBy W' (some g)) : P6 E w o p g p2 g2 N f' f2 W' :=
  have hB := below_grown h.below h.below.size (Nat.le_of_lt h.hg) hb
  ⟨hB, hG.below hB, grown_block hb (Nat.ne_of_lt h.hg) h.box, hA, h.ref.apart hb h.ne.1.1 h.ne.1.2, h.hg, h.hg2, h.ne⟩
theorem P6.wref {E : EnvB} {w : World} {o : Obj} {p g p2 g2 N : Nat} {f f2 f' : Nat → Nat} {W W' : World} (h : P6 E w o p g p2 g2 N f f2 W) (hG : GlobB E w) (hA : RefV W' p2 g2 N f') (hb : W.grownBy W' (some g2)) : P6 E w o p g p2 g2 N f f' W' :=
  have hB := below_grown h.below h.below.size (Nat.le_of_lt h.hg2) hb
  ⟨hB, hG.below hB, grown_block hb (Nat.ne_of_lt h.hg2) h.box, h.real.apartR hb h.ne.2.1 h.ne.2.2, hA, h.hg, h.hg2, h.ne⟩
theorem cutS_size (s : ByteArray) : (cutS s).size ≤ 1000000 := by
  unfold cutS
  rw [ByteArray.size_extract]
  omega

set_option maxHeartbeats 8000000 in
set_option maxRecDepth 20000 in
theorem headPuts_law {E : EnvB} {w : World} (hG : GlobB E w) (b a q : Int) {k l c e : Int} (s : ByteArray) (hb : (Lit.int .i64 b).wf = true) :
    Calls Tryd.prog 7 #[.int .i64 b, .int .i64 a, .int .i64 q, .agg #[.int .i64 k, .int .i64 l, .int .i64 c, .int .i64 e], .string s] w fun r w' => r = .returned (.bool true) ∧ Below w.heap.size w w' := by
  obtain ⟨hb1, hb2⟩ := wf_i64 hb
  obtain ⟨w1, hw1, a0, -, b1⟩ := allocs1 w (.cells #[.int .i64 k, .int .i64 l, .int .i64 c, .int .i64 e] 23)
  have hG1 := hG.below a0
  have m1 := shown_anyH hG1.h
  have HG := Lib.hid hG1
  have HGW := Lib.hid hG
  clear hG hG1 hb
  go_enter Tryd.func7, Tryd.ntmps7
  go_wp2_with fail
  refine m1.mono ?_
  rintro r w2 ⟨rfl, hB⟩
  have HG2 := Lib.hid (HG.out.below hB)
  have bb := (hB.block _ (block_lt b1)).trans b1
  have HB2 := Lib.hid (blH a0 hB)
  have HBB := Lib.hid bb
  have hlt2 := block_lt bb
  clear b1 a0 hB m1 hw1 HG bb
  by_cases hk : b < 1 ∨ 32 < b
  · have m1 := new_no HG2.out.n b hb1 hb2 hk
    have m2 := fun w => newR_no w b hk
    clear hk hb1 hb2
    go_wp2_with fail
    refine m1.mono ?_
    rintro r w3 ⟨rfl, hb⟩
    have HG3 := Lib.hid (HG2.out.below hb)
    have HB3 := Lib.hid (blH HB2.out hb)
    have HBB3 := Lib.hid ((hb.block _ hlt2).trans HBB.out)
    have m3 := m2 w3
    clear m1 hb HG2 HB2 HBB m2 hlt2
    go_wp2_with fail
    refine m3.mono ?_
    rintro r w' ⟨rfl, rfl⟩
    have m1 := get_nil HG3.out.h a
    clear m3
    go_wp2_with fail
    refine m1.mono ?_
    rintro r w4 ⟨rfl, hb⟩
    obtain ⟨w5, hw5, e0, -, e1⟩ := allocs1 w4 (.cells #[.int .i64 0, .int .i64 0, .int .i64 0, .int .i64 0] 23)
    have HB5 := Lib.hid (blH (blH HB3.out hb) e0)
    have bb4 := (hb.block _ (block_lt HBB3.out)).trans HBB3.out
    have bb := (e0.block _ (block_lt bb4)).trans bb4
    have c0 := cells_cell (i := 0) bb (v := .int .i64 k) rfl
    have c1 := cells_cell (i := 1) bb (v := .int .i64 l) rfl
    have c2 := cells_cell (i := 2) bb (v := .int .i64 c) rfl
    have c3 := cells_cell (i := 3) bb (v := .int .i64 e) rfl
    have hl := block_lt bb4
    have d0 := cells_cell (i := 0) bb4 (v := .int .i64 k) rfl
    have d1 := cells_cell (i := 1) bb4 (v := .int .i64 l) rfl
    have d2 := cells_cell (i := 2) bb4 (v := .int .i64 c) rfl
    have d3 := cells_cell (i := 3) bb4 (v := .int .i64 e) rfl
    have P := put_nil ((HG3.out.below hb).below e0).h a k l c e
    have HW5 := Lib.hid hw5
    clear m1 hb e0 e1 bb4 bb hw5 HG3 HB3 HBB3
    go_wp2_with fail
    first | (rw [HW5.out]; refine P.mono ?_) | (refine P.mono ?_)
    rintro r w6 ⟨rfl, hb⟩
    have HB6 := Lib.hid (blH HB5.out hb)
    clear P hb c0 c1 c2 c3 d0 d1 d2 d3 hl
    go_wp2
    go_ret
    exact ⟨rfl, HB6.out⟩
  obtain ⟨kb, rfl⟩ : ∃ kb : Nat, b = kb := ⟨b.toNat, by omega⟩
  have m1 := new_yes HG2.out.n kb (by omega) (by omega)
  have m2 := fun w => newR_yes w kb (by omega) (by omega)
  generalize 4096 * kb = N at *
  clear hk hb1 hb2
  go_wp2_with fail
  refine m1.mono ?_
  rintro r w3 ⟨⟨p, g, rfl, hp, hg, hA⟩, hb⟩
  have HG3 := Lib.hid (HG2.out.below hb)
  have HB3 := Lib.hid (blH HB2.out hb)
  have HBB3 := Lib.hid ((hb.block _ hlt2).trans HBB.out)
  have m3 := m2 w3
  have hl3 : w.heap.size < g ∧ p < w3.heap.size ∧ g < w3.heap.size := ⟨Nat.lt_of_lt_of_le hlt2 hg, block_lt hA.box, hA.arr.lt⟩
  have HA3 := Lib.hid hA
  clear m1 hb HG2 HB2 HBB m2 hlt2 hp hg hA
  go_wp2_with fail
  refine m3.mono ?_
  rintro r w4 ⟨⟨p2, g2, rfl, hp, hg, hR⟩, hb⟩
  have hP : P6 E w (.cells #[.int .i64 k, .int .i64 l, .int .i64 c, .int .i64 e] 23) p g p2 g2 N (fun _ => 0) (fun _ => 0) w4 :=
    ⟨blH HB3.out hb, HG3.out.below hb, (hb.block _ (block_lt HBB3.out)).trans HBB3.out, HA3.out.next hb, hR, hl3.1, Nat.lt_of_lt_of_le (Nat.lt_trans hl3.1 hl3.2.2) hg, by omega⟩
  have m1 := cut_anyH w4 s
  have HCS := Lib.hid (fun W => cut_anyH W s)
  have hcs := cutS_size s
  generalize cutS s = sx at *
  have W1 := write_N hP.glob.n hP.real q sx
  have HP := Lib.hid hP
  clear m3 hp hg hR hb hl3 HG3 HB3 HBB3 HA3 hP
  go_wp2_with fail
  refine m1.mono ?_
  rintro r w' ⟨rfl, rfl⟩
  go_wp2_with fail
  refine W1.mono ?_
  rintro r w5 ⟨rfl, hA, hg⟩
  have hP := HP.out.wreal HGW.out hA hg
  have m2 := HCS.out w5
  have W2 := writeR hP.ref q sx hcs
  have HP5 := Lib.hid hP
  clear m1 W1 hA hg hP HP HCS
  go_wp2_with fail
  refine m2.mono ?_
  rintro r w' ⟨rfl, rfl⟩
  go_wp2_with fail
  refine W2.mono ?_
  rintro r w6 ⟨rfl, hA, hg⟩
  have hP := HP5.out.wref HGW.out hA hg
  clear m2 W2 hA hg HP5 hcs
  generalize (chkN N q sx.size).code = cw at *
  generalize writeF N (fun _ => 0) q sx = f1 at *
  have G1 := getH_any hP.glob.h hP.glob.n hP.real a
  have G2 := fun W (h : RefV W p2 g2 N f1) => getRef h a
  generalize decX (getB N f1 a) (decK (readN N f1 a 8)) = y0 at *
  generalize decX (getB N f1 a) (decL (readN N f1 a 8)) = y1 at *
  generalize decX (getB N f1 a) (decC (readN N f1 a 8)) = y2 at *
  generalize decX (getB N f1 a) (decT (readN N f1 a 8)) = y3 at *
  generalize getE N f1 a = y4 at *
  have HP6 := Lib.hid hP
  clear hP
  go_wp2_with fail
  refine G1.mono ?_
  rintro r w7 ⟨rfl, hb⟩
  have hlg7 : g < w7.heap.size ∧ g2 < w7.heap.size := ⟨(HP6.out.read hb).real.arr.lt, (HP6.out.read hb).ref.arr.lt⟩
  obtain ⟨w8, hw8, e0, -, e1⟩ := allocs1 w7 (.cells #[.int .i64 y0, .int .i64 y1, .int .i64 y2, .int .i64 y3] 23)
  have hP := (HP6.out.read hb).read e0
  have H := G2 w8 hP.ref
  have HX8 := Lib.hid e1
  have hl8 := block_lt e1
  have HW8 := Lib.hid hw8
  have HP8 := Lib.hid hP
  clear G1 G2 hb e0 e1 hw8 hP HP6
  go_wp2_with fail
  rw [HW8.out]
  refine H.mono ?_
  rintro r w9 ⟨rfl, hb⟩
  obtain ⟨w10, hw10, e0, -, e1⟩ := allocs1 w9 (.cells #[.int .i64 y0, .int .i64 y1, .int .i64 y2, .int .i64 y3] 23)
  have hP9 := HP8.out.read hb
  have hP := hP9.read e0
  have x8 := (hb.block _ hl8).trans HX8.out
  have HX10 := Lib.hid ((e0.block _ (block_lt x8)).trans x8)
  have HY10 := Lib.hid e1
  have hl10 := block_lt e1
  have hl9 := block_lt hP9.box
  have hlg : (w7.heap.size ≠ g ∧ w7.heap.size ≠ g2) ∧ (w9.heap.size ≠ g ∧ w9.heap.size ≠ g2) := by have := hlg7; have := hb.size; omega
  have bb9 := hP9.box
  have c0 := cells_cell (i := 0) bb9 (v := .int .i64 k) rfl
  have c1 := cells_cell (i := 1) bb9 (v := .int .i64 l) rfl
  have c2 := cells_cell (i := 2) bb9 (v := .int .i64 c) rfl
  have c3 := cells_cell (i := 3) bb9 (v := .int .i64 e) rfl
  have P := putH_any hP.glob.h hP.glob.n hP.real a k l c e
  have HP10 := Lib.hid hP
  have HW10 := Lib.hid hw10
  clear H hb e0 e1 hw10 hP hP9 HP8 HX8 HW8 bb9 x8
  go_wp2_with fail
  first | (rw [HW10.out]; refine P.mono ?_) | (refine P.mono ?_)
  rintro r w11 ⟨rfl, hA, hg⟩
  have hP := HP10.out.wreal HGW.out hA hg
  have x11 := grown_block hg hlg.1.1 HX10.out
  have y11 := grown_block hg hlg.2.1 HY10.out
  have HX11 := Lib.hid x11
  have HY11 := Lib.hid y11
  have bb := hP.box
  clear c0 c1 c2 c3
  have c0 := cells_cell (i := 0) bb (v := .int .i64 k) rfl
  have c1 := cells_cell (i := 1) bb (v := .int .i64 l) rfl
  have c2 := cells_cell (i := 2) bb (v := .int .i64 c) rfl
  have c3 := cells_cell (i := 3) bb (v := .int .i64 e) rfl
  have Q := putRef hP.ref a k l c e
  have HP11 := Lib.hid hP
  clear P hA hg x11 y11 bb hP HP10 HX10 HY10 HW10
  go_wp2_with fail
  refine Q.mono ?_
  rintro r w12 ⟨rfl, hA, hg⟩
  have hP := HP11.out.wref HGW.out hA hg
  have x12 := grown_block hg hlg.1.2 HX11.out
  have y12 := grown_block hg hlg.2.2 HY11.out
  generalize putHE N a k l c e = cp at *
  generalize putHF N f1 a k l c e = F at *
  have S := size_N hP.real
  have R := read_N hP.glob.n hP.real 0 (N : Int)
  have hin : inB N 0 (N : Int) = true := inB_iff.2 ⟨by omega, by omega, by omega, by omega⟩
  have hr : readN N F 0 (N : Int) = readS F 0 N := by unfold readN; rw [hin]; rfl
  have hc0 : (chkN N 0 (N : Int)).code = 0 := by unfold chkN; rw [hin]; rfl
  rw [hr, hc0] at R
  have hcv := conv_B hP.ref.arr 0 N N 0 (by omega) (.inl rfl)
  have cB := hP.ref.cell
  generalize readS F 0 N = X at *
  have HB := Lib.hid hP.below
  have d0 := cells_cell (i := 0) x12 (v := .int .i64 y0) rfl
  have d1 := cells_cell (i := 1) x12 (v := .int .i64 y1) rfl
  have d2 := cells_cell (i := 2) x12 (v := .int .i64 y2) rfl
  have d3 := cells_cell (i := 3) x12 (v := .int .i64 y3) rfl
  have x0 := cells_cell (i := 0) y12 (v := .int .i64 y0) rfl
  have x1 := cells_cell (i := 1) y12 (v := .int .i64 y1) rfl
  have x2 := cells_cell (i := 2) y12 (v := .int .i64 y2) rfl
  have x3 := cells_cell (i := 3) y12 (v := .int .i64 y3) rfl
  clear Q hA hg x12 y12 hP HP11 HX11 HY11 hin hr hc0 c0 c1 c2 c3
  go_wp2_with fail
  refine S.mono ?_
  rintro r w' ⟨rfl, rfl⟩
  go_wp2_with fail
  refine R.mono ?_
  rintro r w' ⟨rfl, rfl⟩
  clear S R
  go_wp2
  go_ret
  exact ⟨rfl, HB.out⟩
end Go.Proofs.YtdhligapadblgaaDoor

namespace Go.Proofs.YtdhligapadblgaaDoor.lawHeadPuts
open Go.ChangeShapes Go.WideShapes Go.ChangeAt Go.RowKit
theorem gnN : Tryd.prog.globalNamed "selion/arena.errNil" = some 6 := by kernel_rfl
theorem gnG : Tryd.prog.globalNamed "selion/arena.errArg" = some 2 := by kernel_rfl
theorem gnD : Tryd.prog.globalNamed "selion/arena.errAddr" = some 7 := by kernel_rfl
theorem gnA : Tryd.prog.globalNamed "selion/addr.errAddr" = some 5 := by kernel_rfl
theorem gtN : (Tryd.prog.globals[6]?).map (·.type) = some 57 := by kernel_rfl
theorem gtG : (Tryd.prog.globals[2]?).map (·.type) = some 57 := by kernel_rfl
theorem gtD : (Tryd.prog.globals[7]?).map (·.type) = some 57 := by kernel_rfl
theorem gtA : (Tryd.prog.globals[5]?).map (·.type) = some 57 := by kernel_rfl
/-- What this row lists. -/
def laidL : List (String × DataW Unit) := [("selion/addr.errAddr", Rows.laid_selion_addr_errAddr), ("selion/addr.errSize", Rows.laid_selion_addr_errSize), ("selion/addr.errRef", Rows.laid_selion_addr_errRef), ("selion/arena.errNil", Rows.laid_selion_arena_errNil), ("selion/arena.errArg", Rows.laid_selion_arena_errArg), ("selion/arena.errAddr", Rows.laid_selion_arena_errAddr), ("selion/head.errNil", Rows.laid_selion_head_errNil), ("selion/head.errHead", Rows.laid_selion_head_errHead), ("selion/head.errAddr", Rows.laid_selion_head_errAddr), ("selion/head.parts", Rows.laid_selion_head_parts)]

set_option maxRecDepth 20000 in
theorem glob_of_laid {W : World} (h : laidMetH Tryd.prog laidL W) : ∃ E, GlobB E W := by
  have h0 : laidMet Tryd.prog laidL W := h
  have hu := Tryd.underlying57
  have s7 : (Go.Proofs.YtdhligapadblgaaDoor.laidL).Sublist laidL := by
    unfold laidL Go.Proofs.YtdhligapadblgaaDoor.laidL; exact .cons _ (.cons _ (.cons _ (List.Sublist.refl _)))
  obtain ⟨EH, hH⟩ := Go.Proofs.YtdhligapadblgaaDoor.glob_of_laid (W := W) (laidMet_sublist h0 s7)
  obtain ⟨aA, sA⟩ := sent_one h0 gnA gtA hu pesRow Tryd.underlying107 Tryd.underlying132 rfl rfl Tryd.underlying9 esCells strCells
  have s3 : [("selion/arena.errNil", Rows.laid_selion_arena_errNil (H := Unit)), ("selion/arena.errArg", Rows.laid_selion_arena_errArg), ("selion/arena.errAddr", Rows.laid_selion_arena_errAddr)].Sublist laidL := by
    unfold laidL
    exact .cons _ (.cons _ (.cons _ (.cons_cons _ (.cons_cons _ (.cons_cons _ (List.nil_sublist _))))))
  have h1 := laidMet_sublist h0 s3
  clear h0 h
  obtain ⟨aN, sN⟩ := sent_one h1 gnN gtN hu pesRow Tryd.underlying107 Tryd.underlying132 rfl rfl Tryd.underlying9 esCells strCells
  obtain ⟨aG, sG⟩ := sent_one (laidMet_sublist h1 (.cons _ (List.Sublist.refl _))) gnG gtG hu pesRow Tryd.underlying107 Tryd.underlying132 rfl rfl Tryd.underlying9 esCells strCells
  obtain ⟨aD, sD⟩ := sent_one (laidMet_sublist h1 (.cons _ (.cons _ (List.Sublist.refl _)))) gnD gtD hu pesRow Tryd.underlying107 Tryd.underlying132 rfl rfl Tryd.underlying9 esCells strCells
  have n1 := sent_ne h1 gnN gtN gnG gtG hu pesRow Tryd.underlying107 Tryd.underlying132 rfl rfl Tryd.underlying9 esCells strCells sN sG
  have n2 := sent_ne (laidMet_sublist h1 (.cons_cons _ (.cons _ (List.Sublist.refl _)))) gnN gtN gnD gtD hu pesRow Tryd.underlying107 Tryd.underlying132 rfl rfl Tryd.underlying9 esCells strCells sN sD
  have n3 := sent_ne (laidMet_sublist h1 (.cons _ (List.Sublist.refl _))) gnG gtG gnD gtD hu pesRow Tryd.underlying107 Tryd.underlying132 rfl rfl Tryd.underlying9 esCells strCells sG sD
  exact ⟨⟨EH, ⟨aN, aG, aD, aA⟩⟩, hH, sN.cell, sG.cell, sD.cell, sA.cell, sN.block, sG.block, sD.block, n1, n2, n3⟩

/-- The heap that the initialisers leave meets the condition. -/
theorem door_met (os : Os) (args : Array Value) : laidMetH Tryd.prog laidL ((World.doorLaid Tryd.prog 189 os).forCall (fun _ _ => 0) ⟨#[], args, []⟩).memory :=
  laidMetH_of_parts3 (fuel := 8) (laidMet_of_run' 8 (by kernel_rfl) (by kernel_rfl)) (by kernel_rfl) (by kernel_rfl)
end Go.Proofs.YtdhligapadblgaaDoor.lawHeadPuts

namespace Go.Proofs.YtdhligapadblgaaDoor.lawHeadPuts
open Go.ChangeShapes Go.WideShapes Go.ChangeAt Go.RowKit
set_option maxRecDepth 100000 in
theorem told (H : Type) (enc : TypeId × Value → H) (W : World) (base : Nat) (args : Array Value) (ds gs : List (DataW H)) (before : List MemPlace)
    (hval : ∀ (j : Nat) t v, Tryd.f7.params[j]? = some t → args[j]? = some v → Value.okWide Tryd.prog W .any base t v)
    (hW : DataW.Whole enc Tryd.prog Tryd.f7.params.toList Rows.headPutsSpec.vars false W args.toList ds gs before) (hL : laidMetH Tryd.prog laidL W) :
    Calls Tryd.prog 7 args W fun e W' => ∃ v, e = .returned v ∧ Rows.headPutsSpec.post enc Tryd.prog Tryd.f7 false true false false W args v W' := by
  have hW' := hW
  obtain ⟨p, q, hA0, hV, rfl, hfz, hnd⟩ := hW
  have hA : DataW.TrodAll enc Tryd.prog W 0 (fun _ => true) true Tryd.f7.params.toList args.toList ds p := hA0
  rw [Tryd.params7] at hA hval
  obtain ⟨v0, vs0, d0, ds0, p0, q0, hargs, rfl, rfl, h0, r0⟩ := trodAll_cons hA
  obtain ⟨v1, vs1, d1, ds1, p1, q1, rfl, rfl, rfl, h1, r1⟩ := trodAll_cons r0
  obtain ⟨v2, vs2, d2, ds2, p2, q2, rfl, rfl, rfl, h2, r2⟩ := trodAll_cons r1
  obtain ⟨v3, vs3, d3, ds3, p3, q3, rfl, rfl, rfl, h3, r3⟩ := trodAll_cons r2
  obtain ⟨v4, vs4, d4, ds4, p4, q4, rfl, rfl, rfl, h4, r4⟩ := trodAll_cons r3
  obtain ⟨rfl, rfl, rfl⟩ := trodAll_nil r4
  obtain rfl : args = #[v0, v1, v2, v3, v4] := by cases args; simp_all
  obtain ⟨rfl, rfl⟩ := trodVars_none hV
  have k0 := h0
  have k1 := h1
  have k2 := h2
  have k3 := h3
  have k4 := h4
  obtain ⟨x0, rfl, rfl, rfl, wx0⟩ := open_int Tryd.underlying3 (hval 0 3 v0 rfl rfl) h0
  obtain ⟨x1, rfl, rfl, rfl, wx1⟩ := open_int Tryd.underlying3 (hval 1 3 v1 rfl rfl) h1
  obtain ⟨x2, rfl, rfl, rfl, wx2⟩ := open_int Tryd.underlying3 (hval 2 3 v2 rfl rfl) h2
  obtain ⟨k3x, l3x, c3x, e3x, rfl⟩ := mark_open (hval 3 23 v3 rfl rfl) h3
  obtain ⟨x4, rfl⟩ := string_open (hval 4 9 v4 rfl rfl) h4
  clear hA0
  simp only [List.append_nil] at hW'
  obtain ⟨E, hGl⟩ := glob_of_laid hL
  refine (headPuts_law hGl x0 x1 x2 x4 wx0).mono fun e W' ⟨he, hb⟩ => ?_
  subst he
  have hlt := hW'.lt
  have harg0 := Below.trod laidOut (by kernel_rfl) (of_decide_eq_true (by kernel_rfl)) k0 hb (fun y hy => by first | (cases hy; done) | (simpa using hlt y (by simp [hy])))
  have harg1 := Below.trod laidOut (by kernel_rfl) (of_decide_eq_true (by kernel_rfl)) k1 hb (fun y hy => by first | (cases hy; done) | (simpa using hlt y (by simp [hy])))
  have harg2 := Below.trod laidOut (by kernel_rfl) (of_decide_eq_true (by kernel_rfl)) k2 hb (fun y hy => by first | (cases hy; done) | (simpa using hlt y (by simp [hy])))
  have harg3 := Below.trod laidOut (by kernel_rfl) (of_decide_eq_true (by kernel_rfl)) k3 hb (fun y hy => by first | (cases hy; done) | (simpa using hlt y (by simp [hy])))
  have harg4 := Below.trod laidOut (by kernel_rfl) (of_decide_eq_true (by kernel_rfl)) k4 hb (fun y hy => by first | (cases hy; done) | (simpa using hlt y (by simp [hy])))
  exact ⟨_, rfl, _, _, _, [], _, [], hW', trodAll_cons_mk (shut_bool Tryd.underlying4 _) trodAll_mk0, (trodAll_cons_mk harg0 (trodAll_cons_mk harg1 (trodAll_cons_mk harg2 (trodAll_cons_mk harg3 (trodAll_cons_mk harg4 trodAll_mk0))))), rfl, hb.frame _, fun h => by cases h⟩

set_option maxRecDepth 100000 in
theorem lifted (os : Os) (started : os.Started) (H : Type) (enc : TypeId × Value → H) :
    ReturnsInHanded {} Tryd.checked os 7 .any (fun w args => (Rows.headPutsSpec.pre enc Tryd.prog Tryd.f7 [] false w args ∧ laidMetH Tryd.prog laidL w) ∧ sizedMet enc Tryd.prog Tryd.f7 (OpenSpec.ofChange Rows.headPutsSpec) false w args)
      (Rows.headPutsSpec.post enc Tryd.prog Tryd.f7 false true false false) := by
  refine returnsInHanded_of_change_and (C := Tryd.checked) (X := fun w _ => laidMetH Tryd.prog laidL w) (fun _ _ _ hh h => h.of_heap hh) own started (by kernel_rfl) Tryd.func7
    (ChangeSpec.witness_shaped (enc := enc) (C := Tryd.checked) (os := os) (X := fun w _ => laidMetH Tryd.prog laidL w) false (World.doorLaid Tryd.prog 189 os) #[.int .i64 0, .int .i64 0, .int .i64 0, .agg #[.int .i64 0, .int .i64 0, .int .i64 0, .int .i64 0], .string ⟨#[]⟩] 8 rfl (World.shaped_of_RefB (by kernel_rfl) (by kernel_rfl)) (by kernel_rfl) (by kernel_rfl) (by kernel_rfl) (door_met os _)) ?_
  intro W base args ds gs before hval hW _ _ hL _
  exact told H enc W base args ds gs before hval hW hL

theorem said : Rows.HeadPutsSaid :=
  OpenClaim.holds_of_wide 7 Tryd.f7 rfl rfl rfl rfl rfl rfl rfl ⟨rfl, rfl, rfl, rfl, rfl⟩ rfl rfl rfl rfl rfl (by kernel_rfl) Tryd.func7 (by kernel_rfl)
    (of_decide_eq_true (by kernel_rfl)) (by unfold Func.isWrapper; first | (rw [if_pos (by decide +kernel)]; kernel_rfl) | (rw [if_neg (by decide +kernel)]; exact ⟨rfl, rfl⟩))
    (fun os started H enc _ => lifted os started H enc)

theorem plain (f : FuncId) (fn : Func) (hf : Tryd.pinned.checked.prog.funcNamed "selion/selionlaw06.HeadPuts" = some f) (hfn : Tryd.pinned.checked.prog.funcs[f]? = some fn) :
    true = Tryd.pinned.checked.prog.looks [] ∧ ∀ (j : Nat) t, fn.params[j]? = some t → Tryd.pinned.checked.prog.wantsStandIn t = false := by
  obtain rfl : f = 7 := Option.some.inj ((show Tryd.prog.funcNamed "selion/selionlaw06.HeadPuts" = some 7 by kernel_rfl).symm.trans hf) |>.symm
  obtain rfl : fn = Tryd.f7 := (Option.some.inj (Tryd.func7.symm.trans hfn)).symm
  refine ⟨by kernel_rfl, fun j t ht => ?_⟩
  have hm : t ∈ Tryd.f7.params := Array.mem_of_getElem? ht
  rw [Tryd.params7] at hm
  have hm' : t = 3 ∨ t = 23 ∨ t = 9 := by simpa using hm
  rcases hm' with rfl | rfl | rfl
  · exact (show Tryd.prog.wantsStandIn 3 = false by kernel_rfl)
  · exact (show Tryd.prog.wantsStandIn 23 = false by kernel_rfl)
  · exact (show Tryd.prog.wantsStandIn 9 = false by kernel_rfl)

/-- THE CARD. -/
theorem card : Rows.HeadPutsCardSaid :=
  Claim7.holds_tied_plain_at .later [] _ _ _ _ said (fun _ h => by cases h) (by kernel_rfl) (fun _ h => by cases h) headPuts_row_tie rfl ⟨rfl, rfl⟩ (by kernel_rfl) rfl plain (by kernel_rfl)
end Go.Proofs.YtdhligapadblgaaDoor.lawHeadPuts

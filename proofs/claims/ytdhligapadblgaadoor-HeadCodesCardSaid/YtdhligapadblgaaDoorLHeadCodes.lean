/- HeadCodes holds of all heads, texts, numbers: the law's own text walked, and the card. -/
import Derived.Test.YtdhligapadblgaaDoorK12
import Derived.Test.YtdhligapadblgaaDoorCards
import Derived.Test.YtdhligapadblgaaDoorTie
import Derived.Deep.RegionHeld3
namespace Go.Proofs.YtdhligapadblgaaDoor
open Go.RowKit
attribute [local go_sem ↓] Go.wp_at_zero Go.wp_at_succ

set_option maxHeartbeats 8000000 in
set_option maxRecDepth 20000 in
theorem codes_law {E : EnvH} {w : World} (hG : GlobH E w) {k l c e : Int} (s : ByteArray) (q : Int) :
    Calls Tryd.prog 3 #[.agg #[.int .i64 k, .int .i64 l, .int .i64 c, .int .i64 e], .string s, .int .i64 q] w fun r w' => r = .returned (.bool true) ∧ Below w.heap.size w w' := by
  obtain ⟨w1, hw1, a0, -, b1⟩ := allocs1 w (.cells #[.int .i64 k, .int .i64 l, .int .i64 c, .int .i64 e] 23)
  have hG1 := hG.below a0
  have m1 := shown_anyH hG1
  have HG := Lib.hid hG1
  clear hG hG1
  go_enter Tryd.func3, Tryd.ntmps3
  go_wp2_with fail
  refine m1.mono ?_
  rintro r w2 ⟨rfl, hB⟩
  replace b1 := (hB.block _ (block_lt b1)).trans b1
  have c0 := cells_cell (i := 0) b1 (v := .int .i64 k) rfl
  have c1 := cells_cell (i := 1) b1 (v := .int .i64 l) rfl
  have c2 := cells_cell (i := 2) b1 (v := .int .i64 c) rfl
  have c3 := cells_cell (i := 3) b1 (v := .int .i64 e) rfl
  have m1 := encode_any (HG.out.below hB) k l c e
  clear hw1
  go_wp2_with fail
  refine m1.mono ?_
  rintro r w3 ⟨rfl, hb⟩
  replace hB := blH hB hb
  replace b1 := (hb.block _ (block_lt b1)).trans b1
  clear c0 c1 c2 c3 hb m1
  have c0 := cells_cell (i := 0) b1 (v := .int .i64 k) rfl
  have c1 := cells_cell (i := 1) b1 (v := .int .i64 l) rfl
  have c2 := cells_cell (i := 2) b1 (v := .int .i64 c) rfl
  have c3 := cells_cell (i := 3) b1 (v := .int .i64 e) rfl
  have m1 := encodeRef_any (w := w3) k l c e
  go_wp2_with fail
  refine m1.mono ?_
  rintro r w4 ⟨rfl, hb⟩
  replace hB := blH hB hb
  replace b1 := (hb.block _ (block_lt b1)).trans b1
  clear c0 c1 c2 c3 hb m1
  have m1 := cut_anyH w4 s
  go_wp2_with fail
  refine m1.mono ?_
  rintro r w5 ⟨rfl, rfl⟩
  have m1 := decode_any (HG.out.below hB) (cutS s)
  have HCU := Lib.hid (fun W => cut_anyH W s)
  generalize hx1 : decX (decB (cutS s)) (decK (cutS s)) = x1 at *
  generalize hx2 : decX (decB (cutS s)) (decL (cutS s)) = x2 at *
  generalize hx3 : decX (decB (cutS s)) (decC (cutS s)) = x3 at *
  generalize hx4 : decX (decB (cutS s)) (decT (cutS s)) = x4 at *
  generalize hx5 : decE (cutS s) = x5 at *
  have HX := Lib.hid (And.intro hx1 (And.intro hx2 (And.intro hx3 (And.intro hx4 hx5))))
  clear hx1 hx2 hx3 hx4 hx5
  go_wp2_with fail
  refine m1.mono ?_
  rintro r w6 ⟨rfl, hb⟩
  obtain ⟨w7, hw7, e0, -, b2⟩ := allocs1 w6 (.cells #[.int .i64 x1, .int .i64 x2, .int .i64 x3, .int .i64 x4] 23)
  replace hb := hb.trans (e0.mono hb.size)
  replace hB := blH hB hb
  replace b1 := (hb.block _ (block_lt b1)).trans b1
  have m1 := HCU.out w7
  clear hb e0
  go_wp2_with fail
  refine m1.mono ?_
  rintro r w8 ⟨rfl, rfl⟩
  have m1 := decodeRef_any (w := w8) (cutS s)
  rw [HX.out.1, HX.out.2.1, HX.out.2.2.1, HX.out.2.2.2.1, HX.out.2.2.2.2] at m1
  clear HX HCU
  go_wp2_with fail
  refine m1.mono ?_
  rintro r w9 ⟨rfl, hb⟩
  obtain ⟨w10, hw10, e0, -, b3⟩ := allocs1 w9 (.cells #[.int .i64 x1, .int .i64 x2, .int .i64 x3, .int .i64 x4] 23)
  replace hb := hb.trans (e0.mono hb.size)
  replace hB := blH hB hb
  replace b1 := (hb.block _ (block_lt b1)).trans b1
  replace b2 := (hb.block _ (block_lt b2)).trans b2
  have hBw := blH a0 hB
  have HR1 := Lib.hid (show ∀ W, Below w10.heap.size w10 W → Calls Tryd.prog 15 #[.agg #[.int .i64 k, .int .i64 l, .int .i64 c, .int .i64 e]] W fun r w' => r = .returned (.bool (rightM k l c e)) ∧ Below W.heap.size W w' from fun W h => right_anyH (HG.out.below (blH hB h)) k l c e)
  have HR2 := Lib.hid (show ∀ W, Below w10.heap.size w10 W → Calls Tryd.prog 16 #[.agg #[.int .i64 k, .int .i64 l, .int .i64 c, .int .i64 e]] W fun r w' => r = .returned (.bool (rightM k l c e)) ∧ Below W.heap.size W w' from fun W _ => rightRefH k l c e)
  have HT1 := Lib.hid (show ∀ W, Below w10.heap.size w10 W → Calls Tryd.prog 17 #[.int .i64 q] W fun r w' => r = .returned (.int .i64 (turnI q)) ∧ Below W.heap.size W w' from fun W h => turn_anyH (HG.out.below (blH hB h)) q)
  have HT2 := Lib.hid (show ∀ W, Below w10.heap.size w10 W → Calls Tryd.prog 18 #[.int .i64 q] W fun r w' => r = .returned (.int .i64 (turnI q)) ∧ Below W.heap.size W w' from fun W _ => (turnRefH W q).mono fun r w' ⟨h1, h2⟩ => ⟨h1, by rw [h2]; exact Below.refl _ _⟩)
  generalize rightM k l c e = t1 at *
  generalize turnI q = t2 at *
  generalize encI k l c e = y1 at *
  generalize encE k l c e = y2 at *
  generalize cutS s = cs at *
  have g1 : (t1 == t1) = true := by simp
  have g2 : (t2 == t2) = true := by simp
  have g3 : (y2 == y2) = true := by simp
  have g4 : (x5 == x5) = true := by simp
  have HC : Below w10.heap.size w10 w10 := Below.refl _ _
  have c0 := cells_cell (i := 0) b1 (v := .int .i64 k) rfl
  have c1 := cells_cell (i := 1) b1 (v := .int .i64 l) rfl
  have c2 := cells_cell (i := 2) b1 (v := .int .i64 c) rfl
  have c3 := cells_cell (i := 3) b1 (v := .int .i64 e) rfl
  have d0 := cells_cell (i := 0) b2 (v := .int .i64 x1) rfl
  have d1 := cells_cell (i := 1) b2 (v := .int .i64 x2) rfl
  have d2 := cells_cell (i := 2) b2 (v := .int .i64 x3) rfl
  have d3 := cells_cell (i := 3) b2 (v := .int .i64 x4) rfl
  have o0 := cells_cell (i := 0) b3 (v := .int .i64 x1) rfl
  have o1 := cells_cell (i := 1) b3 (v := .int .i64 x2) rfl
  have o2 := cells_cell (i := 2) b3 (v := .int .i64 x3) rfl
  have o3 := cells_cell (i := 3) b3 (v := .int .i64 x4) rfl
  have HXX := Lib.hid (show ∀ W, Below w10.heap.size w10 W → Below w10.heap.size w10 W ∧ W.cell? ⟨w.heap.size, 0, none⟩ = some (.int .i64 k) ∧ W.cell? ⟨w.heap.size, 1, none⟩ = some (.int .i64 l) ∧ W.cell? ⟨w.heap.size, 2, none⟩ = some (.int .i64 c) ∧ W.cell? ⟨w.heap.size, 3, none⟩ = some (.int .i64 e) ∧ W.cell? ⟨w6.heap.size, 0, none⟩ = some (.int .i64 x1) ∧ W.cell? ⟨w6.heap.size, 1, none⟩ = some (.int .i64 x2) ∧ W.cell? ⟨w6.heap.size, 2, none⟩ = some (.int .i64 x3) ∧ W.cell? ⟨w6.heap.size, 3, none⟩ = some (.int .i64 x4) ∧ W.cell? ⟨w9.heap.size, 0, none⟩ = some (.int .i64 x1) ∧ W.cell? ⟨w9.heap.size, 1, none⟩ = some (.int .i64 x2) ∧ W.cell? ⟨w9.heap.size, 2, none⟩ = some (.int .i64 x3) ∧ W.cell? ⟨w9.heap.size, 3, none⟩ = some (.int .i64 x4) from
    fun W h => ⟨h, (h.cell (p := ⟨w.heap.size, 0, none⟩) (cell_lt c0)).trans c0, (h.cell (p := ⟨w.heap.size, 1, none⟩) (cell_lt c1)).trans c1, (h.cell (p := ⟨w.heap.size, 2, none⟩) (cell_lt c2)).trans c2, (h.cell (p := ⟨w.heap.size, 3, none⟩) (cell_lt c3)).trans c3, (h.cell (p := ⟨w6.heap.size, 0, none⟩) (cell_lt d0)).trans d0, (h.cell (p := ⟨w6.heap.size, 1, none⟩) (cell_lt d1)).trans d1, (h.cell (p := ⟨w6.heap.size, 2, none⟩) (cell_lt d2)).trans d2, (h.cell (p := ⟨w6.heap.size, 3, none⟩) (cell_lt d3)).trans d3, (h.cell (p := ⟨w9.heap.size, 0, none⟩) (cell_lt o0)).trans o0, (h.cell (p := ⟨w9.heap.size, 1, none⟩) (cell_lt o1)).trans o1, (h.cell (p := ⟨w9.heap.size, 2, none⟩) (cell_lt o2)).trans o2, (h.cell (p := ⟨w9.heap.size, 3, none⟩) (cell_lt o3)).trans o3⟩)
  clear b1 b2 b3 HG m1 hb e0 hB a0
  go_wp2_with fail
  clear hw7 hw10
  first
    | go_region_held3 (fun W' => Below w10.heap.size w10 W' ∧ W'.cell? ⟨w.heap.size, 0, none⟩ = some (.int .i64 k) ∧ W'.cell? ⟨w.heap.size, 1, none⟩ = some (.int .i64 l) ∧ W'.cell? ⟨w.heap.size, 2, none⟩ = some (.int .i64 c) ∧ W'.cell? ⟨w.heap.size, 3, none⟩ = some (.int .i64 e) ∧ W'.cell? ⟨w6.heap.size, 0, none⟩ = some (.int .i64 x1) ∧ W'.cell? ⟨w6.heap.size, 1, none⟩ = some (.int .i64 x2) ∧ W'.cell? ⟨w6.heap.size, 2, none⟩ = some (.int .i64 x3) ∧ W'.cell? ⟨w6.heap.size, 3, none⟩ = some (.int .i64 x4) ∧ W'.cell? ⟨w9.heap.size, 0, none⟩ = some (.int .i64 x1) ∧ W'.cell? ⟨w9.heap.size, 1, none⟩ = some (.int .i64 x2) ∧ W'.cell? ⟨w9.heap.size, 2, none⟩ = some (.int .i64 x3) ∧ W'.cell? ⟨w9.heap.size, 3, none⟩ = some (.int .i64 x4))
       ((refine HXX.out _ ?_; first | exact HC | exact HC.drew))
       (first
        | (go_at_call 15; refine (HR1.out _ ?_).mono ?_; (first | exact HC | exact HC.drew); rintro r w' ⟨rfl, hb1⟩; have HC := (show Below w10.heap.size w10 w' from by first | exact blH HC hb1 | exact blH HC.drew hb1); obtain ⟨-, c0, c1, c2, c3, d0, d1, d2, d3, o0, o1, o2, o3⟩ := HXX.out _ HC)
        | (go_at_call 16; refine (HR2.out _ ?_).mono ?_; (first | exact HC | exact HC.drew); rintro r w' ⟨rfl, hb1⟩; have HC := (show Below w10.heap.size w10 w' from by first | exact blH HC hb1 | exact blH HC.drew hb1); obtain ⟨-, c0, c1, c2, c3, d0, d1, d2, d3, o0, o1, o2, o3⟩ := HXX.out _ HC)
        | (go_at_call 17; refine (HT1.out _ ?_).mono ?_; (first | exact HC | exact HC.drew); rintro r w' ⟨rfl, hb1⟩; have HC := (show Below w10.heap.size w10 w' from by first | exact blH HC hb1 | exact blH HC.drew hb1); obtain ⟨-, c0, c1, c2, c3, d0, d1, d2, d3, o0, o1, o2, o3⟩ := HXX.out _ HC)
        | (go_at_call 18; refine (HT2.out _ ?_).mono ?_; (first | exact HC | exact HC.drew); rintro r w' ⟨rfl, hb1⟩; have HC := (show Below w10.heap.size w10 w' from by first | exact blH HC hb1 | exact blH HC.drew hb1); obtain ⟨-, c0, c1, c2, c3, d0, d1, d2, d3, o0, o1, o2, o3⟩ := HXX.out _ HC))
    | fail "held"
  all_goals
    go_wp2
    go_ret
    exact ⟨rfl, by first | exact blH hBw HC | exact blH hBw HC.drew⟩
end Go.Proofs.YtdhligapadblgaaDoor

namespace Go.Proofs.YtdhligapadblgaaDoor.lawHeadCodes
open Go.ChangeShapes Go.WideShapes Go.ChangeAt Go.RowKit
set_option maxRecDepth 100000 in
theorem told (H : Type) (enc : TypeId × Value → H) (W : World) (base : Nat) (args : Array Value) (ds gs : List (DataW H)) (before : List MemPlace)
    (hval : ∀ (j : Nat) t v, Tryd.f3.params[j]? = some t → args[j]? = some v → Value.okWide Tryd.prog W .any base t v)
    (hW : DataW.Whole enc Tryd.prog Tryd.f3.params.toList Rows.headCodesSpec.vars false W args.toList ds gs before) (hL : laidMetH Tryd.prog laidL W) :
    Calls Tryd.prog 3 args W fun e W' => ∃ v, e = .returned v ∧ Rows.headCodesSpec.post enc Tryd.prog Tryd.f3 false true false false W args v W' := by
  have hW' := hW
  obtain ⟨p, q, hA0, hV, rfl, hfz, hnd⟩ := hW
  have hA : DataW.TrodAll enc Tryd.prog W 0 (fun _ => true) true Tryd.f3.params.toList args.toList ds p := hA0
  rw [Tryd.params3] at hA hval
  obtain ⟨v0, vs0, d0, ds0, p0, q0, hargs, rfl, rfl, h0, r0⟩ := trodAll_cons hA
  obtain ⟨v1, vs1, d1, ds1, p1, q1, rfl, rfl, rfl, h1, r1⟩ := trodAll_cons r0
  obtain ⟨v2, vs2, d2, ds2, p2, q2, rfl, rfl, rfl, h2, r2⟩ := trodAll_cons r1
  obtain ⟨rfl, rfl, rfl⟩ := trodAll_nil r2
  obtain rfl : args = #[v0, v1, v2] := by cases args; simp_all
  obtain ⟨rfl, rfl⟩ := trodVars_none hV
  have k0 := h0
  have k1 := h1
  have k2 := h2
  obtain ⟨k0x, l0x, c0x, e0x, rfl⟩ := mark_open (hval 0 23 v0 rfl rfl) h0
  obtain ⟨x1, rfl⟩ := string_open (hval 1 9 v1 rfl rfl) h1
  obtain ⟨x2, rfl, rfl, rfl, wx2⟩ := open_int Tryd.underlying3 (hval 2 3 v2 rfl rfl) h2
  clear hA0
  simp only [List.append_nil] at hW'
  obtain ⟨E, hGl⟩ := glob_of_laid hL
  refine (codes_law hGl x1 x2).mono fun e W' ⟨he, hb⟩ => ?_
  subst he
  have hlt := hW'.lt
  have harg0 := Below.trod laidOut (by kernel_rfl) (of_decide_eq_true (by kernel_rfl)) k0 hb (fun y hy => by first | (cases hy; done) | (simpa using hlt y (by simp [hy])))
  have harg1 := Below.trod laidOut (by kernel_rfl) (of_decide_eq_true (by kernel_rfl)) k1 hb (fun y hy => by first | (cases hy; done) | (simpa using hlt y (by simp [hy])))
  have harg2 := Below.trod laidOut (by kernel_rfl) (of_decide_eq_true (by kernel_rfl)) k2 hb (fun y hy => by first | (cases hy; done) | (simpa using hlt y (by simp [hy])))
  exact ⟨_, rfl, _, _, _, [], _, [], hW', trodAll_cons_mk (shut_bool Tryd.underlying4 _) trodAll_mk0, (trodAll_cons_mk harg0 (trodAll_cons_mk harg1 (trodAll_cons_mk harg2 trodAll_mk0))), rfl, hb.frame _, fun h => by cases h⟩

set_option maxRecDepth 100000 in
theorem lifted (os : Os) (started : os.Started) (H : Type) (enc : TypeId × Value → H) :
    ReturnsInHanded {} Tryd.checked os 3 .any (fun w args => (Rows.headCodesSpec.pre enc Tryd.prog Tryd.f3 [] false w args ∧ laidMetH Tryd.prog laidL w) ∧ sizedMet enc Tryd.prog Tryd.f3 (OpenSpec.ofChange Rows.headCodesSpec) false w args)
      (Rows.headCodesSpec.post enc Tryd.prog Tryd.f3 false true false false) := by
  refine returnsInHanded_of_change_and (C := Tryd.checked) (X := fun w _ => laidMetH Tryd.prog laidL w) (fun _ _ _ hh h => h.of_heap hh) own started (by kernel_rfl) Tryd.func3
    (ChangeSpec.witness_shaped (enc := enc) (C := Tryd.checked) (os := os) (X := fun w _ => laidMetH Tryd.prog laidL w) false (World.doorLaid Tryd.prog 189 os) #[.agg #[.int .i64 0, .int .i64 0, .int .i64 0, .int .i64 0], .string ⟨#[]⟩, .int .i64 0] 8 rfl (World.shaped_of_RefB (by kernel_rfl) (by kernel_rfl)) (by kernel_rfl) (by kernel_rfl) (by kernel_rfl) (door_met os _)) ?_
  intro W base args ds gs before hval hW _ _ hL _
  exact told H enc W base args ds gs before hval hW hL

theorem said : Rows.HeadCodesSaid :=
  OpenClaim.holds_of_wide 3 Tryd.f3 rfl rfl rfl rfl rfl rfl rfl ⟨rfl, rfl, rfl, rfl, rfl⟩ rfl rfl rfl rfl rfl (by kernel_rfl) Tryd.func3 (by kernel_rfl)
    (of_decide_eq_true (by kernel_rfl)) (by unfold Func.isWrapper; first | (rw [if_pos (by decide +kernel)]; kernel_rfl) | (rw [if_neg (by decide +kernel)]; exact ⟨rfl, rfl⟩))
    (fun os started H enc _ => lifted os started H enc)

theorem plain (f : FuncId) (fn : Func) (hf : Tryd.pinned.checked.prog.funcNamed "selion/selionlaw06.HeadCodes" = some f) (hfn : Tryd.pinned.checked.prog.funcs[f]? = some fn) :
    true = Tryd.pinned.checked.prog.looks [] ∧ ∀ (j : Nat) t, fn.params[j]? = some t → Tryd.pinned.checked.prog.wantsStandIn t = false := by
  obtain rfl : f = 3 := Option.some.inj ((show Tryd.prog.funcNamed "selion/selionlaw06.HeadCodes" = some 3 by kernel_rfl).symm.trans hf) |>.symm
  obtain rfl : fn = Tryd.f3 := (Option.some.inj (Tryd.func3.symm.trans hfn)).symm
  refine ⟨by kernel_rfl, fun j t ht => ?_⟩
  have hm : t ∈ Tryd.f3.params := Array.mem_of_getElem? ht
  rw [Tryd.params3] at hm
  have hm' : t = 23 ∨ t = 9 ∨ t = 3 := by simpa using hm
  rcases hm' with rfl | rfl | rfl
  · exact (show Tryd.prog.wantsStandIn 23 = false by kernel_rfl)
  · exact (show Tryd.prog.wantsStandIn 9 = false by kernel_rfl)
  · exact (show Tryd.prog.wantsStandIn 3 = false by kernel_rfl)

/-- THE CARD. -/
theorem card : Rows.HeadCodesCardSaid :=
  Claim7.holds_tied_plain_at .later [] _ _ _ _ said (fun _ h => by cases h) (by kernel_rfl) (fun _ h => by cases h) headCodes_row_tie rfl ⟨rfl, rfl⟩ (by kernel_rfl) rfl plain (by kernel_rfl)
end Go.Proofs.YtdhligapadblgaaDoor.lawHeadCodes

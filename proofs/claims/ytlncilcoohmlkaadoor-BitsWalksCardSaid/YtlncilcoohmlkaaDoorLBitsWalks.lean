/- BitsWalks holds of all bits: the law's own text walked, and the card. -/
import Derived.Test.YtlncilcoohmlkaaDoorU10
import Derived.Test.YtlncilcoohmlkaaDoorP3
import Derived.Test.YtlncilcoohmlkaaDoorBx
import Derived.Test.YtlncilcoohmlkaaDoorG2
import Derived.Test.YtlncilcoohmlkaaDoorCards
import Derived.Test.YtlncilcoohmlkaaDoorTie
import Derived.BigQuiet
namespace Go.Proofs.YtlncilcoohmlkaaDoor
open Go.RowKit
attribute [local go_sem ↓] Go.wp_at_zero Go.wp_at_succ

theorem IntsV.at_ {w : World} {a : Option Addr} {cap : Nat} {l : List Int} (h : IntsV w (.slice a l.length cap) l) (i : Nat) (hi : i < l.length) :
    ∃ b off, a = Option.some ⟨b, off, none⟩ ∧ w.cell? ⟨b, off + i, none⟩ = Option.some (.int .i64 (l.getD i 0)) := by
  generalize hn : l.length = n at h
  generalize hv : Value.slice a n cap = v at h
  cases h with
  | some b off cap l hl hm hc => cases hv; exact ⟨_, _, rfl, hc i hi⟩
  | empty a cap => simp at hi
theorem IntsV.len {w : World} {a : Option Addr} {cap : Nat} {l : List Int} (h : IntsV w (.slice a l.length cap) l) : l.length ≤ 9223372036854775807 := by
  generalize hn : l.length = n at h
  generalize hv : Value.slice a n cap = v at h
  cases h with
  | some b off cap l hl hm hc => cases hv; omega
  | empty a cap => cases hv; simp
theorem hasB_lt {n : Int} {ws : List Nat} {x : Nat} (h : hasB n ws (x : Int) = true) : x < 20000 := by
  unfold hasB at h
  rw [Bool.and_eq_true, Bool.and_eq_true, Bool.and_eq_true] at h
  obtain ⟨h1, -, h2, -⟩ := h
  obtain ⟨N, rfl, hN, -⟩ := rightB_iff h1
  simp at h2
  omega

set_option maxHeartbeats 4000000 in
set_option maxRecDepth 20000 in
theorem walks_law {E : Env2} {w : World} (hGl : Glob2 E w) {n : Int} {v : Value} {ws : List Nat} (hv : WordsV w v ws) :
    Calls Tryd.prog 4 #[.agg #[.int .i64 n, v]] w fun r w' => r = .returned (.bool true) ∧ Below w.heap.size w w' := by
  generalize hl' : ws.take 12 = l'
  have HL := Lib.hid hl'
  obtain ⟨a, ca, rfl⟩ := hv.slice
  obtain ⟨w1, hw1, e0, e1, b1⟩ := allocs1 w (.cells #[.int .i64 n, .slice a ws.length ca] 24)
  have hb := e0
  have HG := Lib.hid hGl
  replace hGl := hGl.below e0
  replace hv := hv.below e0
  have m1 := shown_any hGl
  clear hl' e0 e1
  go_enter Tryd.func4, Tryd.ntmps4
  go_wp2_with fail
  refine m1.mono ?_
  rintro r w2 ⟨rfl, hb1⟩
  replace hb := hb.trans (hb1.mono hb.size)
  replace hGl := hGl.below hb1
  replace hv := hv.below hb1
  replace b1 := (hb1.block _ (block_lt b1)).trans b1
  clear m1 hb1 hw1
  have c0 := cells_cell (i := 0) b1 (v := .int .i64 n) rfl
  have c1 := cells_cell (i := 1) b1 (v := .slice a ws.length ca) rfl
  have m1 := cut_any2 (n := n) hv
  rw [HL.out] at m1
  clear HL
  go_wp2_with fail
  refine m1.mono ?_
  rintro r w3 ⟨⟨vc, rfl, hc⟩, hb1⟩
  obtain ⟨a', ca', rfl⟩ := hc.slice
  replace hb := hb.trans (hb1.mono hb.size)
  replace b1 := (hb1.block _ (block_lt b1)).trans b1
  clear m1 hb1 hGl hv c0 c1
  obtain ⟨w4, hw4, hb4, hGl, hW, b4, -⟩ := rebox HG.out hb (Nat.le_refl _) b1 n a' l'.length ca'
  replace hc := hW _ _ hc
  have c0 := cells_cell (i := 0) b1 (v := .int .i64 n) rfl
  have c1 := cells_cell (i := 1) b1 (v := .slice a ws.length ca) rfl
  have f0 := cells_free (i := 0) b1
  have f1 := cells_free (i := 1) b1
  have d0 := cells_cell (i := 0) b4 (v := .int .i64 n) rfl
  have d1 := cells_cell (i := 1) b4 (v := .slice a' l'.length ca') rfl
  have m1 := list_any (n := n) hc
  clear b1 hW hb
  go_wp2_with fail
  refine m1.mono ?_
  rintro r w5 ⟨⟨v2, rfl, h2⟩, hb2⟩
  replace hc := hc.below hb2
  replace b4 := (hb2.block _ (block_lt b4)).trans b4
  replace hb4 := hb4.trans (hb2.mono hb4.size)
  clear m1 hb2 hGl c0 c1 f0 f1 d0 d1 hw4
  have d0 := cells_cell (i := 0) b4 (v := .int .i64 n) rfl
  have d1 := cells_cell (i := 1) b4 (v := .slice a' l'.length ca') rfl
  clear b4
  have HN := Lib.hid (show ∀ k, k ≤ (listN n l').length → nextI n l' (fromP (listN n l') k : Nat) true = (listN n l')[k]? from fun k hk => next_walk2 n l' hk)
  have HH := Lib.hid (show ∀ x, x ∈ listN n l' → hasB n l' (x : Int) = true from fun x hx => has_list hx)
  have HF := Lib.hid (show ∀ k, k < (listN n l').length → fromP (listN n l') k ≤ (listN n l').getD k 0 from fun k hk => from_le (listN_sorted n l') hk)
  have hct := fun W h => count_any2 (w := W) (n := n) (hc.below h)
  rw [listI_eq] at h2 hct
  rw [List.length_map] at hct
  have HCT := Lib.hid hct
  generalize listN n l' = L at *
  clear hct
  generalize hLI : L.map (fun k : Nat => (k : Int)) = LI at h2
  have hlen : LI.length = L.length := by rw [← hLI]; simp
  have hget : ∀ k, k < L.length → LI.getD k 0 = ((L.getD k 0 : Nat) : Int) := fun k hk => by rw [← hLI]; simp [List.getD, hk]
  clear hLI
  obtain ⟨aL, cL, rfl⟩ := h2.slice
  have hat := Lib.hid (show ∀ k, k < L.length → ∃ b off, aL = some ⟨b, off, none⟩ ∧ w5.cell? ⟨b, off + k, none⟩ = some (.int .i64 ((L.getD k 0 : Nat) : Int)) from fun k hk => by
    have := h2.at_ k (by omega)
    rwa [hget k hk] at this)
  have hmx : L.length ≤ 9223372036854775807 := by have := h2.len; omega
  rw [hlen]
  clear h2 hlen hget
  clear LI
  go_wp2
  go_loopw [5, 6] (fun f i W => ∃ k : Nat, k ≤ L.length ∧ i = .int .i64 k ∧ f = .int .i64 (fromP L k : Nat) ∧ Below w5.heap.size w5 W) (fun _ i _ => L.length - (intOf i).toNat)
  case atStart => exact ⟨0, Nat.zero_le _, rfl, rfl, Below.refl _ _⟩
  case round =>
    obtain ⟨k, hk, rfl, rfl, hB⟩ := hrel
    have m1 := next_any2 (n := n) (hc.below hB) (fromP L k : Nat) true
    rw [HN.out k hk] at m1
    have x0 := (hB.cell (p := ⟨w.heap.size, 0, none⟩) (cell_lt d0)).trans d0
    have x1 := (hB.cell (p := ⟨w.heap.size, 1, none⟩) (cell_lt d1)).trans d1
    by_cases hlt : k < L.length
    · obtain ⟨b, off, rfl, c1⟩ := hat.out k hlt
      have hle := HF.out k hlt
      have hmem : L.getD k 0 ∈ L := by simp [List.getD, hlt]
      have hh := HH.out _ hmem
      rw [List.getElem?_eq_getElem hlt] at m1
      have e : L.getD k 0 = L[k] := by simp [List.getD, hlt]
      rw [← e] at m1
      have e2 := Lib.hid (fromP_succ L k)
      have hlt63 : L.getD k 0 < 9223372036854775807 := by
        have := hasB_lt hh
        omega
      generalize hx : L.getD k 0 = x at *
      generalize fromP L k = f at *
      change Calls _ _ _ _ fun r w' => r = .returned (.tuple #[.int .i64 (x : Int), .bool true]) ∧ _ at m1
      clear e hmem hx
      go_wp2_with fail
      refine m1.mono ?_
      rintro r w6 ⟨rfl, hb6⟩
      have hB6 := hB.trans (hb6.mono hB.size)
      clear x0 x1
      have x0 := (hB6.cell (p := ⟨w.heap.size, 0, none⟩) (cell_lt d0)).trans d0
      have x1 := (hB6.cell (p := ⟨w.heap.size, 1, none⟩) (cell_lt d1)).trans d1
      have x2 := (hB6.cell (p := ⟨b, off + k, none⟩) (cell_lt c1)).trans c1
      have m2 := has_any (n := n) (hc.below hB6) (x : Int)
      rw [hh] at m2
      have g1 : decide ((x : Int) < (f : Int)) = false := decide_eq_false (by omega)
      have g1' : decide (x < f) = false := decide_eq_false (by omega)
      have g2 : ((x : Int) != (x : Int)) = false := by simp
      have i1 : (0 : Int) ≤ (k : Int) := by omega
      have i2 : (k : Int) < (L.length : Int) := by omega
      have i3 : IntKind.i64.wrap ((x : Int) + 1) = (x : Int) + 1 := IntWalk.i64_in _ (by omega)
      clear m1 hb6 hh hle
      go_wp2_with fail
      refine m2.mono ?_
      rintro r w7 ⟨rfl, hb7⟩
      have hB7 := hB6.trans (hb7.mono hB6.size)
      clear m2 hb7
      go_wp2
      go_round
      case rel => exact ⟨k + 1, by omega, by go_num, by rw [e2.out]; go_num, by first | exact hB7 | exact hB7.drew⟩
      case measure => simp [intOf]; omega
    · obtain rfl : k = L.length := by omega
      rw [List.getElem?_eq_none (Nat.le_refl _)] at m1
      change Calls _ _ _ _ fun r w' => r = .returned (.tuple #[.int .i64 0, .bool false]) ∧ _ at m1
      generalize fromP L L.length = f at *
      go_wp2_with fail
      refine m1.mono ?_
      rintro r w6 ⟨rfl, hb6⟩
      have hB6 := hB.trans (hb6.mono hB.size)
      clear x0 x1
      have x0 := (hB6.cell (p := ⟨w.heap.size, 0, none⟩) (cell_lt d0)).trans d0
      have x1 := (hB6.cell (p := ⟨w.heap.size, 1, none⟩) (cell_lt d1)).trans d1
      have m2 := HCT.out _ hB6
      clear m1 hb6
      go_wp2_with fail
      refine m2.mono ?_
      rintro r w7 ⟨rfl, hb7⟩
      have hB7 := hB6.trans (hb7.mono hB6.size)
      have hb8 := hb4.trans (hB7.mono hb4.size)
      clear m2 hb7
      go_wp2
      go_ret
      exact ⟨rfl, by first | exact hb8 | exact hb8.drew⟩
end Go.Proofs.YtlncilcoohmlkaaDoor

namespace Go.Proofs.YtlncilcoohmlkaaDoor.lawBitsWalks
open Go.ChangeShapes Go.WideShapes Go.ChangeAt Go.RowKit
set_option maxRecDepth 100000 in
theorem told (H : Type) (enc : TypeId × Value → H) (W : World) (base : Nat) (args : Array Value) (ds gs : List (DataW H)) (before : List MemPlace)
    (hval : ∀ (j : Nat) t v, Tryd.f4.params[j]? = some t → args[j]? = some v → Value.okWide Tryd.prog W .any base t v)
    (hW : DataW.Whole enc Tryd.prog Tryd.f4.params.toList Rows.bitsWalksSpec.vars false W args.toList ds gs before) (hL : laidMetH Tryd.prog laidL W) :
    Calls Tryd.prog 4 args W fun e W' => ∃ v, e = .returned v ∧ Rows.bitsWalksSpec.post enc Tryd.prog Tryd.f4 false true false false W args v W' := by
  have hW' := hW
  obtain ⟨p, q, hA0, hV, rfl, hfz, hnd⟩ := hW
  have hA : DataW.TrodAll enc Tryd.prog W 0 (fun _ => true) true Tryd.f4.params.toList args.toList ds p := hA0
  rw [Tryd.params4] at hA hval
  obtain ⟨v0, vs0, d0, ds0, p0, q0, hargs, rfl, rfl, h0, r0⟩ := trodAll_cons hA
  obtain ⟨rfl, rfl, rfl⟩ := trodAll_nil r0
  obtain rfl : args = #[v0] := by cases args; simp_all
  obtain ⟨rfl, rfl⟩ := trodVars_none hV
  have k0 := h0
  obtain ⟨n0, u0, l0, rfl, i0⟩ := bits_open (hval 0 24 v0 rfl rfl) h0
  clear hA0
  simp only [List.append_nil] at hW'
  obtain ⟨E, hGl⟩ := glob_of_laid hL
  refine (walks_law hGl i0).mono fun e W' ⟨he, hb⟩ => ?_
  subst he
  have hlt := hW'.lt
  have harg0 := Below.trod laidOut (by kernel_rfl) (of_decide_eq_true (by kernel_rfl)) k0 hb (fun y hy => by first | (cases hy; done) | (simpa using hlt y (by simp [hy])))
  exact ⟨_, rfl, _, _, _, [], _, [], hW', trodAll_cons_mk (shut_bool Tryd.underlying4 _) trodAll_mk0, (trodAll_cons_mk harg0 trodAll_mk0), rfl, hb.frame _, fun h => by cases h⟩

set_option maxRecDepth 100000 in
theorem lifted (os : Os) (started : os.Started) (H : Type) (enc : TypeId × Value → H) :
    ReturnsInHanded {} Tryd.checked os 4 .any (fun w args => (Rows.bitsWalksSpec.pre enc Tryd.prog Tryd.f4 [] false w args ∧ laidMetH Tryd.prog laidL w) ∧ sizedMet enc Tryd.prog Tryd.f4 (OpenSpec.ofChange Rows.bitsWalksSpec) false w args)
      (Rows.bitsWalksSpec.post enc Tryd.prog Tryd.f4 false true false false) := by
  refine returnsInHanded_of_change_and (C := Tryd.checked) (X := fun w _ => laidMetH Tryd.prog laidL w) (fun _ _ _ hh h => h.of_heap hh) own started (by kernel_rfl) Tryd.func4
    (ChangeSpec.witness_shaped (enc := enc) (C := Tryd.checked) (os := os) (X := fun w _ => laidMetH Tryd.prog laidL w) false (World.doorLaid Tryd.prog 66 os) #[.agg #[.int .i64 0, .slice none 0 0]] 8 rfl (World.shaped_of_RefB (by kernel_rfl) (by kernel_rfl)) (by kernel_rfl) (by kernel_rfl) (by kernel_rfl) (door_met os _)) ?_
  intro W base args ds gs before hval hW _ _ hL _
  exact told H enc W base args ds gs before hval hW hL

theorem said : Rows.BitsWalksSaid :=
  OpenClaim.holds_of_wide 4 Tryd.f4 rfl rfl rfl rfl rfl rfl rfl ⟨rfl, rfl, rfl, rfl, rfl⟩ rfl rfl rfl rfl rfl (by kernel_rfl) Tryd.func4 (by kernel_rfl)
    (of_decide_eq_true (by kernel_rfl)) (by unfold Func.isWrapper; first | (rw [if_pos (by decide +kernel)]; kernel_rfl) | (rw [if_neg (by decide +kernel)]; exact ⟨rfl, rfl⟩))
    (fun os started H enc _ => lifted os started H enc)

theorem plain (f : FuncId) (fn : Func) (hf : Tryd.pinned.checked.prog.funcNamed "selion/selionlaw02.BitsWalks" = some f) (hfn : Tryd.pinned.checked.prog.funcs[f]? = some fn) :
    true = Tryd.pinned.checked.prog.looks [] ∧ ∀ (j : Nat) t, fn.params[j]? = some t → Tryd.pinned.checked.prog.wantsStandIn t = false := by
  obtain rfl : f = 4 := Option.some.inj ((show Tryd.prog.funcNamed "selion/selionlaw02.BitsWalks" = some 4 by kernel_rfl).symm.trans hf) |>.symm
  obtain rfl : fn = Tryd.f4 := (Option.some.inj (Tryd.func4.symm.trans hfn)).symm
  refine ⟨by kernel_rfl, fun j t ht => ?_⟩
  have hm : t ∈ Tryd.f4.params := Array.mem_of_getElem? ht
  rw [Tryd.params4] at hm
  have hm' : t = 24 := by simpa using hm
  subst hm'
  exact (show Tryd.prog.wantsStandIn 24 = false by kernel_rfl)

/-- THE CARD. -/
theorem card : Rows.BitsWalksCardSaid :=
  Claim7.holds_tied_plain_at .later [] _ _ _ _ said (fun _ h => by cases h) (by kernel_rfl) (fun _ h => by cases h) bitsWalks_row_tie rfl ⟨rfl, rfl⟩ (by kernel_rfl) rfl plain (by kernel_rfl)
end Go.Proofs.YtlncilcoohmlkaaDoor.lawBitsWalks

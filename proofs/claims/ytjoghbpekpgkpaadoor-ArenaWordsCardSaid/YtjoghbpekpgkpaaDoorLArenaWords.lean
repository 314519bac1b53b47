/- ArenaWords holds of all numbers of blocks, calls, places, words: the law's own text walked, and the card. -/
import Derived.Test.YtjoghbpekpgkpaaDoorN14
import Derived.Test.YtjoghbpekpgkpaaDoorCards
import Derived.Test.YtjoghbpekpgkpaaDoorTie
namespace Go.Proofs.YtjoghbpekpgkpaaDoor
open Go Go.RowKit Go.Shelf
attribute [local go_sem ↓] Go.wp_at_zero Go.wp_at_succ
attribute [local go_sem ↓] run_max_int run_min_int

theorem readS_at {f : Nat → Nat} {A K k : Nat} (h8 : ∀ j, f j < 256) (h : k < (readS f A K).size) : ((readS f A K)[k]'h).toNat = f (A + k) := by
  have hk : k < K := by rwa [readS_size] at h
  have e : (readS f A K)[k]'h = UInt8.ofNat (f (A + k)) := by
    show ((List.range K).map fun i => UInt8.ofNat (f (A + i)))[k]'(by rw [List.length_map, List.length_range]; exact hk) = _
    rw [List.getElem_map, List.getElem_range]
  rw [e]
  have := h8 (A + k)
  simp
  omega
theorem storeP_at (f : Nat → Nat) (A V k : Nat) (hk : k < 4) : storeP f A V 4 (A + k) = V / 256 ^ k % 256 := by
  unfold storeP
  rw [if_pos (by omega), Nat.add_sub_cancel_left]
theorem word_back (f : Nat → Nat) (A V : Nat) (hV : V < 4294967296) : wordF (storeP f A V 4) A = V := by
  unfold wordF
  simp only [worthP]
  rw [storeP_at f A V 0 (by decide), storeP_at f A V 1 (by decide), storeP_at f A V 2 (by decide), storeP_at f A V 3 (by decide)]
  simp only [Nat.reducePow, Nat.div_one, Nat.mul_one, Nat.zero_add]
  omega
theorem wf_u32 {n : Int} (h : (Lit.int .u32 n).wf = true) : 0 ≤ n ∧ n < 4294967296 := by
  have h1 : IntKind.u32.min = 0 := by decide
  have h2 : IntKind.u32.max = 4294967295 := by decide
  simp only [Lit.wf, h1, h2, decide_eq_true_eq, Bool.and_eq_true] at h
  omega
theorem words_nums {V : Nat} (hV : V < 4294967296) (b0 b1 b2 b3 : Nat) (h0 : V % 256 = b0) (h1 : V / 256 % 256 = b1) (h2 : V / 65536 % 256 = b2) (h3 : V / 16777216 % 256 = b3) :
    IntKind.u32.wrap (b0 : Int) = (b0 : Int) ∧ IntKind.u32.wrap (b1 : Int) = (b1 : Int) ∧ IntKind.u32.wrap (b2 : Int) = (b2 : Int) ∧ IntKind.u32.wrap (b3 : Int) = (b3 : Int) ∧
    IntKind.u32.wrap (256 * (b1 : Int)) = 256 * (b1 : Int) ∧ IntKind.u32.wrap (65536 * (b2 : Int)) = 65536 * (b2 : Int) ∧ IntKind.u32.wrap (16777216 * (b3 : Int)) = 16777216 * (b3 : Int) ∧
    IntKind.u32.wrap ((b0 : Int) + 256 * (b1 : Int)) = (b0 : Int) + 256 * (b1 : Int) ∧ IntKind.u32.wrap ((b0 : Int) + 256 * (b1 : Int) + 65536 * (b2 : Int)) = (b0 : Int) + 256 * (b1 : Int) + 65536 * (b2 : Int) ∧
    IntKind.u32.wrap ((b0 : Int) + 256 * (b1 : Int) + 65536 * (b2 : Int) + 16777216 * (b3 : Int)) = (V : Int) := by
  refine ⟨?_, ?_, ?_, ?_, ?_, ?_, ?_, ?_, ?_, ?_⟩ <;> rw [IntKind.wrap_u32] <;> omega

set_option maxHeartbeats 4000000 in
set_option maxRecDepth 20000 in
theorem words_law {E : EnvN} {w : World} (hG : GlobN E w) (b : Int) {v : Value} {l : List XOp} (hv : OpsV w v l) (a z : Int) (hb : (Lit.int .i64 b).wf = true) (hz : (Lit.int .u32 z).wf = true) :
    Calls Tryd.prog 6 #[.int .i64 b, v, .int .i64 a, .int .u32 z] w fun r w' => r = .returned (.bool true) ∧ Below w.heap.size w w' := by
  obtain ⟨hb1, hb2⟩ := wf_i64 hb
  obtain ⟨hz1, hz2⟩ := wf_u32 hz
  obtain ⟨V, rfl⟩ : ∃ V : Nat, z = V := ⟨z.toNat, by omega⟩
  have hV : V < 4294967296 := by omega
  clear hz hz1 hz2
  have m0 := shown_N hG
  have HG := Lib.hid hG
  clear hG hb
  go_enter Tryd.func6, Tryd.ntmps6
  go_wp2_with fail
  refine m0.mono ?_
  rintro r w1 ⟨rfl, hB⟩
  clear m0
  cases h : okN b with
  | false =>
    have m1 := made_no (HG.out.below hB) hb1 hb2 h v
    clear h hb1 hb2
    go_wp2_with fail
    refine m1.mono ?_
    rintro r w2 ⟨rfl, hb⟩
    have HB := Lib.hid (blN hB hb)
    clear m1 hB hb
    go_wp2
    go_ret
    exact ⟨rfl, HB.out⟩
  | true =>
    obtain ⟨k, rfl, h1, h2⟩ := okN_iff h
    have m1 := made_yes (HG.out.below hB) h1 h2 (hv.below hB)
    have hN : 4096 * k ≤ 1000000 := by omega
    generalize playF (4096 * k) (fun _ => 0) (cutO l) = f at *
    generalize 4096 * k = N at *
    clear h hb1 hb2 h1 h2 hv
    go_wp2_with fail
    refine m1.mono ?_
    rintro r w2 ⟨⟨p, g, rfl, hp, hg, hA⟩, hb⟩
    have hB2 := blN hB hb
    have hS : St E w p g N f w2 := ⟨hB2, HG.out.below hB2, hA, Nat.le_trans hB.size hp, Nat.le_trans hB.size hg⟩
    clear m1 hp hg hB hb hA hB2
    have W0 := store_N hS.glob hS.arena a V
    have HS := Lib.hid hS
    cases hin : okW N a with
    | false =>
      have hz : storeF N f a V = f := by unfold storeF; rw [hin]; rfl
      rw [errW_adr hin, hz] at W0
      have HIN := Lib.hid hin
      clear hin hz hS hN hV
      go_wp2_with fail
      refine W0.mono ?_
      rintro r w3 ⟨rfl, hA, hg⟩
      have hS := HS.out.write HG.out hA hg
      have L := load_N hS.glob hS.arena a
      have hl : loadN N f a = 0 := by unfold loadN; rw [HIN.out]; rfl
      rw [errW_adr HIN.out, hl] at L
      have HS3 := Lib.hid hS
      clear W0 hA hg hS hl HS HIN
      go_wp2_with fail
      refine L.mono ?_
      rintro r w4 ⟨rfl, hb⟩
      have HB := Lib.hid (HS3.out.read hb).below
      clear L hb HS3
      go_wp2
      go_ret
      exact ⟨rfl, HB.out⟩
    | true =>
      have hin2 := hin
      unfold okW at hin2
      rw [Bool.and_eq_true] at hin2
      obtain ⟨q1, q2, q3, q4⟩ := inB_iff.1 hin2.1
      obtain ⟨A, rfl⟩ : ∃ A : Nat, a = A := ⟨a.toNat, by omega⟩
      have hz : storeF N f (A : Int) V = storeP f A V 4 := by unfold storeF; rw [hin]; rfl
      rw [errW_ok hin, hz] at W0
      have hm : (A : Int).tmod 4 = 0 := of_decide_eq_true hin2.2
      have HIN := Lib.hid hin
      have HIN4 := Lib.hid hin2.1
      have HWB := Lib.hid (word_back f A V hV)
      have hb0 := storeP_at f A V 0 (by decide)
      have hb1 := storeP_at f A V 1 (by decide)
      have hb2 := storeP_at f A V 2 (by decide)
      have hb3 := storeP_at f A V 3 (by decide)
      simp only [Nat.reducePow, Nat.div_one] at hb0 hb1 hb2 hb3
      generalize hF : storeP f A V 4 = F at *
      clear hin hin2 hz hS hN q1 q2 q3 q4 hF
      go_wp2_with fail
      refine W0.mono ?_
      rintro r w3 ⟨rfl, hA, hg⟩
      have hS := HS.out.write HG.out hA hg
      have L := load_N hS.glob hS.arena (A : Int)
      have hl : loadN N F (A : Int) = V := by unfold loadN; rw [HIN.out, cond_true, Int.toNat_natCast]; exact HWB.out
      rw [errW_ok HIN.out, hl] at L
      have HS3 := Lib.hid hS
      clear W0 hA hg hS hl HS
      go_wp2_with fail
      refine L.mono ?_
      rintro r w4 ⟨rfl, hb⟩
      have hS := HS3.out.read hb
      have R := read_N hS.glob hS.arena (A : Int) 4
      have hr : readN N F (A : Int) 4 = readS F A 4 := by unfold readN; rw [HIN4.out]; rfl
      rw [chkN_code, HIN4.out, cond_true, hr] at R
      have h8 := hS.arena.arr.by8
      have HB := Lib.hid hS.below
      have hsz : (readS F A 4).size = 4 := readS_size F A 4
      have j0 : ∀ h : 0 < (readS F A 4).size, ((readS F A 4)[0]'h).toNat = F (A + 0) := fun h => readS_at h8 h
      have j1 : ∀ h : 1 < (readS F A 4).size, ((readS F A 4)[1]'h).toNat = F (A + 1) := fun h => readS_at h8 h
      have j2 : ∀ h : 2 < (readS F A 4).size, ((readS F A 4)[2]'h).toNat = F (A + 2) := fun h => readS_at h8 h
      have j3 : ∀ h : 3 < (readS F A 4).size, ((readS F A 4)[3]'h).toNat = F (A + 3) := fun h => readS_at h8 h
      obtain ⟨n0, n1, n2, n3, n4, n5, n6, n7, n8, n9⟩ := words_nums hV _ _ _ _ hb0.symm hb1.symm hb2.symm hb3.symm
      generalize readS F A 4 = s at *
      generalize F (A + 0) = b0 at *
      generalize F (A + 1) = b1 at *
      generalize F (A + 2) = b2 at *
      generalize F (A + 3) = b3 at *
      have gm : ((A : Int).tmod 4 == 0) = true := beq_iff_eq.2 hm
      clear L hb hS hr h8 HS3 HIN HIN4 HWB hb0 hb1 hb2 hb3 hV
      go_wp2_with fail
      refine R.mono ?_
      rintro r w' ⟨rfl, rfl⟩
      clear R
      go_wp2
      refine wp_region_still_tail 37 (by kernel_rfl) (by kernel_rfl) ?_
      simp only [List.take_succ_cons, List.take_zero, List.drop_succ_cons, List.drop_zero]
      repeat still_step
      refine wpStill_nil ?_
      change wpList _ _ _ _ _ w4.drew
      go_wp2
      go_ret
      exact ⟨rfl, HB.out.drew⟩
end Go.Proofs.YtjoghbpekpgkpaaDoor

namespace Go.Proofs.YtjoghbpekpgkpaaDoor.lawArenaWords
open Go.ChangeShapes Go.WideShapes Go.ChangeAt Go.RowKit
set_option maxRecDepth 100000 in
theorem told (H : Type) (enc : TypeId × Value → H) (W : World) (base : Nat) (args : Array Value) (ds gs : List (DataW H)) (before : List MemPlace)
    (hval : ∀ (j : Nat) t v, Tryd.f6.params[j]? = some t → args[j]? = some v → Value.okWide Tryd.prog W .any base t v)
    (hW : DataW.Whole enc Tryd.prog Tryd.f6.params.toList Rows.arenaWordsSpec.vars false W args.toList ds gs before) (hL : laidMetH Tryd.prog laidL W) :
    Calls Tryd.prog 6 args W fun e W' => ∃ v, e = .returned v ∧ Rows.arenaWordsSpec.post enc Tryd.prog Tryd.f6 false true false false W args v W' := by
  have hW' := hW
  obtain ⟨p, q, hA0, hV, rfl, hfz, hnd⟩ := hW
  have hA : DataW.TrodAll enc Tryd.prog W 0 (fun _ => true) true Tryd.f6.params.toList args.toList ds p := hA0
  rw [Tryd.params6] at hA hval
  obtain ⟨v0, vs0, d0, ds0, p0, q0, hargs, rfl, rfl, h0, r0⟩ := trodAll_cons hA
  obtain ⟨v1, vs1, d1, ds1, p1, q1, rfl, rfl, rfl, h1, r1⟩ := trodAll_cons r0
  obtain ⟨v2, vs2, d2, ds2, p2, q2, rfl, rfl, rfl, h2, r2⟩ := trodAll_cons r1
  obtain ⟨v3, vs3, d3, ds3, p3, q3, rfl, rfl, rfl, h3, r3⟩ := trodAll_cons r2
  obtain ⟨rfl, rfl, rfl⟩ := trodAll_nil r3
  obtain rfl : args = #[v0, v1, v2, v3] := by cases args; simp_all
  obtain ⟨rfl, rfl⟩ := trodVars_none hV
  have k0 := h0
  have k1 := h1
  have k2 := h2
  have k3 := h3
  obtain ⟨x0, rfl, rfl, rfl, wx0⟩ := open_int Tryd.underlying3 (hval 0 3 v0 rfl rfl) h0
  obtain ⟨l1, i1⟩ := ops_open (hval 1 34 v1 rfl rfl) h1
  obtain ⟨x2, rfl, rfl, rfl, wx2⟩ := open_int Tryd.underlying3 (hval 2 3 v2 rfl rfl) h2
  obtain ⟨x3, rfl, rfl, rfl, wx3⟩ := open_int Tryd.underlying27 (hval 3 27 v3 rfl rfl) h3
  clear hA0
  simp only [List.append_nil] at hW'
  obtain ⟨E, hGl⟩ := glob_of_laid hL
  refine (words_law hGl x0 i1 x2 x3 wx0 wx3).mono fun e W' ⟨he, hb⟩ => ?_
  subst he
  have hlt := hW'.lt
  have harg0 := Below.trod laidOut (by kernel_rfl) (of_decide_eq_true (by kernel_rfl)) k0 hb (fun y hy => by first | (cases hy; done) | (simpa using hlt y (by simp [hy])))
  have harg1 := Below.trod laidOut (by kernel_rfl) (of_decide_eq_true (by kernel_rfl)) k1 hb (fun y hy => by first | (cases hy; done) | (simpa using hlt y (by simp [hy])))
  have harg2 := Below.trod laidOut (by kernel_rfl) (of_decide_eq_true (by kernel_rfl)) k2 hb (fun y hy => by first | (cases hy; done) | (simpa using hlt y (by simp [hy])))
  have harg3 := Below.trod laidOut (by kernel_rfl) (of_decide_eq_true (by kernel_rfl)) k3 hb (fun y hy => by first | (cases hy; done) | (simpa using hlt y (by simp [hy])))
  exact ⟨_, rfl, _, _, _, [], _, [], hW', trodAll_cons_mk (shut_bool Tryd.underlying4 _) trodAll_mk0, (trodAll_cons_mk harg0 (trodAll_cons_mk harg1 (trodAll_cons_mk harg2 (trodAll_cons_mk harg3 trodAll_mk0)))), rfl, hb.frame _, fun h => by cases h⟩

set_option maxRecDepth 100000 in
theorem lifted (os : Os) (started : os.Started) (H : Type) (enc : TypeId × Value → H) :
    ReturnsInHanded {} Tryd.checked os 6 .any (fun w args => (Rows.arenaWordsSpec.pre enc Tryd.prog Tryd.f6 [] false w args ∧ laidMetH Tryd.prog laidL w) ∧ sizedMet enc Tryd.prog Tryd.f6 (OpenSpec.ofChange Rows.arenaWordsSpec) false w args)
      (Rows.arenaWordsSpec.post enc Tryd.prog Tryd.f6 false true false false) := by
  refine returnsInHanded_of_change_and (C := Tryd.checked) (X := fun w _ => laidMetH Tryd.prog laidL w) (fun _ _ _ hh h => h.of_heap hh) own started (by kernel_rfl) Tryd.func6
    (ChangeSpec.witness_shaped (enc := enc) (C := Tryd.checked) (os := os) (X := fun w _ => laidMetH Tryd.prog laidL w) false (World.doorLaid Tryd.prog 123 os) #[.int .i64 0, .slice none 0 0, .int .i64 0, .int .u32 0] 8 rfl (World.shaped_of_RefB (by kernel_rfl) (by kernel_rfl)) (by kernel_rfl) (by kernel_rfl) (by kernel_rfl) (door_met os _)) ?_
  intro W base args ds gs before hval hW _ _ hL _
  exact told H enc W base args ds gs before hval hW hL

theorem said : Rows.ArenaWordsSaid :=
  OpenClaim.holds_of_wide 6 Tryd.f6 rfl rfl rfl rfl rfl rfl rfl ⟨rfl, rfl, rfl, rfl, rfl⟩ rfl rfl rfl rfl rfl (by kernel_rfl) Tryd.func6 (by kernel_rfl)
    (of_decide_eq_true (by kernel_rfl)) (by unfold Func.isWrapper; first | (rw [if_pos (by decide +kernel)]; kernel_rfl) | (rw [if_neg (by decide +kernel)]; exact ⟨rfl, rfl⟩))
    (fun os started H enc _ => lifted os started H enc)

theorem plain (f : FuncId) (fn : Func) (hf : Tryd.pinned.checked.prog.funcNamed "selion/selionlaw03.ArenaWords" = some f) (hfn : Tryd.pinned.checked.prog.funcs[f]? = some fn) :
    true = Tryd.pinned.checked.prog.looks [] ∧ ∀ (j : Nat) t, fn.params[j]? = some t → Tryd.pinned.checked.prog.wantsStandIn t = false := by
  obtain rfl : f = 6 := Option.some.inj ((show Tryd.prog.funcNamed "selion/selionlaw03.ArenaWords" = some 6 by kernel_rfl).symm.trans hf) |>.symm
  obtain rfl : fn = Tryd.f6 := (Option.some.inj (Tryd.func6.symm.trans hfn)).symm
  refine ⟨by kernel_rfl, fun j t ht => ?_⟩
  have hm : t ∈ Tryd.f6.params := Array.mem_of_getElem? ht
  rw [Tryd.params6] at hm
  have hm' : t = 3 ∨ t = 34 ∨ t = 3 ∨ t = 27 := by simpa using hm
  rcases hm' with rfl | rfl | rfl | rfl
  · exact (show Tryd.prog.wantsStandIn 3 = false by kernel_rfl)
  · exact (show Tryd.prog.wantsStandIn 34 = false by kernel_rfl)
  · exact (show Tryd.prog.wantsStandIn 3 = false by kernel_rfl)
  · exact (show Tryd.prog.wantsStandIn 27 = false by kernel_rfl)

/-- THE CARD. -/
theorem card : Rows.ArenaWordsCardSaid :=
  Claim7.holds_tied_plain_at .later [] _ _ _ _ said (fun _ h => by cases h) (by kernel_rfl) (fun _ h => by cases h) arenaWords_row_tie rfl ⟨rfl, rfl⟩ (by kernel_rfl) rfl plain (by kernel_rfl)
end Go.Proofs.YtjoghbpekpgkpaaDoor.lawArenaWords

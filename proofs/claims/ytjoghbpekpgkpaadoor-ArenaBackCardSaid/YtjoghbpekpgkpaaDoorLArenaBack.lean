/- ArenaBack holds of all numbers of blocks, calls, places, texts: the law's own text walked, and the card. -/
import Derived.Test.YtjoghbpekpgkpaaDoorN14
import Derived.Test.YtjoghbpekpgkpaaDoorCards
import Derived.Test.YtjoghbpekpgkpaaDoorTie
namespace Go.Proofs.YtjoghbpekpgkpaaDoor
open Go Go.RowKit Go.Shelf
attribute [local go_sem ↓] Go.wp_at_zero Go.wp_at_succ
attribute [local go_sem ↓] run_max_int run_min_int

theorem put_in {f : Nat → Nat} {A : Nat} {L : List Nat} {j : Nat} (h : j < L.length) : put f A L (A + j) = L.getD j 0 := by
  unfold put
  rw [if_pos (by omega), Nat.add_sub_cancel_left]
theorem put_out {f : Nat → Nat} {A : Nat} {L : List Nat} {j : Nat} (h : j < A ∨ A + L.length ≤ j) : put f A L j = f j := by
  unfold put
  rw [if_neg (by omega)]
theorem readS_put (f : Nat → Nat) (A : Nat) (s : ByteArray) : readS (put f A (bytesOf s)) A s.size = s := by
  apply ByteArray.ext
  apply Array.ext'
  unfold readS
  show (List.range s.size).map (fun i => UInt8.ofNat (put f A (bytesOf s) (A + i))) = s.data.toList
  apply List.ext_getElem
  · rw [List.length_map, List.length_range]
    rfl
  · intro i h1 h2
    have hi : i < (bytesOf s).length := by rw [bytesOf_len]; simpa using h1
    rw [List.getElem_map, List.getElem_range, put_in hi, List.getD_eq_getElem?_getD, List.getElem?_eq_getElem hi]
    have e : (bytesOf s)[i]'hi = (s.data.toList[i]'h2).toNat := List.getElem_map _
    rw [Option.getD_some, e]
    simp
theorem readS_fst (f : Nat → Nat) (A K : Nat) : (readS f 0 (A + K)).extract 0 A = readS f 0 A := by
  have := readS_app f 0 A K
  rw [Nat.zero_add] at this
  rw [← this]
  apply ByteArray.ext
  rw [ByteArray.data_extract, ByteArray.data_append, Array.extract_append]
  have : (readS f 0 A).data.size = A := readS_size f 0 A
  simp [this]
theorem readS_snd (f : Nat → Nat) (A K : Nat) : (readS f 0 (A + K)).extract A (A + K) = readS f A K := by
  have := readS_app f 0 A K
  rw [Nat.zero_add] at this
  rw [← this]
  apply ByteArray.ext
  rw [ByteArray.data_extract, ByteArray.data_append, Array.extract_append]
  have h1 : (readS f 0 A).data.size = A := readS_size f 0 A
  have h2 : (readS f A K).data.size = K := readS_size f A K
  have k1 : (readS f 0 A).data.extract A (A + K) = #[] := Array.extract_empty_of_size_le_start (by rw [h1]; exact Nat.le_refl _)
  have k2 : (readS f A K).data.extract 0 K = (readS f A K).data := by
    have := Array.extract_size (xs := (readS f A K).data)
    rwa [h2] at this
  rw [k1, h1, Nat.sub_self, Nat.add_sub_cancel_left, k2]
  simp
theorem back_sum {f : Nat → Nat} {A N : Nat} {s : ByteArray} (h : A + s.size ≤ N) : readS f 0 A ++ s ++ readS f (A + s.size) (N - (A + s.size)) = readS (put f A (bytesOf s)) 0 N := by
  have hl := bytesOf_len s
  obtain ⟨R, rfl⟩ : ∃ R, N = A + s.size + R := ⟨N - (A + s.size), by omega⟩
  rw [Nat.add_sub_cancel_left]
  have e1 : readS f 0 A = readS (put f A (bytesOf s)) 0 A := readS_congr fun j _ hj => (put_out (.inl (by omega))).symm
  have e2 : readS f (A + s.size) R = readS (put f A (bytesOf s)) (A + s.size) R := readS_congr fun j hj _ => (put_out (.inr (by omega))).symm
  have e3 := readS_put f A s
  have a1 := readS_app (put f A (bytesOf s)) 0 A s.size
  have a2 := readS_app (put f A (bytesOf s)) 0 (A + s.size) R
  rw [Nat.zero_add] at a1 a2
  rw [e1, e2, ← a2, ← a1, e3]

set_option maxHeartbeats 4000000 in
set_option maxRecDepth 20000 in
theorem back_law {E : EnvN} {w : World} (hG : GlobN E w) (b : Int) {v : Value} {l : List XOp} (hv : OpsV w v l) (a : Int) (s : ByteArray) (hb : (Lit.int .i64 b).wf = true) :
    Calls Tryd.prog 5 #[.int .i64 b, v, .int .i64 a, .string s] w fun r w' => r = .returned (.bool true) ∧ Below w.heap.size w w' := by
  obtain ⟨hb1, hb2⟩ := wf_i64 hb
  have m0 := shown_N hG
  have HG := Lib.hid hG
  clear hG hb
  obtain ⟨sx, hsx⟩ : ∃ sx, s.extract 0 (min (s.size : Int) 200).toNat = sx := ⟨_, rfl⟩
  have hsl : sx.size ≤ 200 := by rw [← hsx]; exact cut_size s 200
  have HL := Lib.hid hsl
  clear hsl
  go_enter Tryd.func5, Tryd.ntmps5
  go_wp2_with fail
  refine m0.mono ?_
  rintro r w1 ⟨rfl, hB⟩
  clear m0
  cases h : okN b with
  | false =>
    have m1 := made_no (HG.out.below hB) hb1 hb2 h v
    clear h hb1 hb2
    go_wp2_with fail
    refine m1.mono ?_
    rintro r w2 ⟨rfl, hb⟩
    have HB := Lib.hid (blN hB hb)
    clear m1 hB hb
    go_wp2
    go_ret
    exact ⟨rfl, HB.out⟩
  | true =>
    obtain ⟨k, rfl, h1, h2⟩ := okN_iff h
    have m1 := made_yes (HG.out.below hB) h1 h2 (hv.below hB)
    have hN : 4096 * k ≤ 1000000 := by omega
    generalize playF (4096 * k) (fun _ => 0) (cutO l) = f at *
    generalize 4096 * k = N at *
    clear h hb1 hb2 h1 h2 hv
    go_wp2_with fail
    refine m1.mono ?_
    rintro r w2 ⟨⟨p, g, rfl, hp, hg, hA⟩, hb⟩
    have hB2 := blN hB hb
    have hS : St E w p g N f w2 := ⟨hB2, HG.out.below hB2, hA, Nat.le_trans hB.size hp, Nat.le_trans hB.size hg⟩
    clear m1 hp hg hB hb hA hB2
    have M0 := size_N hS.arena
    have hinN : inB N 0 (N : Int) = true := inB_iff.2 ⟨by omega, by omega, by omega, by omega⟩
    have hr0 : readN N f 0 (N : Int) = readS f 0 N := by unfold readN; rw [hinN]; rfl
    have R0 := read_N hS.glob hS.arena 0 (N : Int)
    rw [chkN_code, hinN, cond_true, hr0] at R0
    have W0 := write_N hS.glob hS.arena a sx
    rw [chkN_code] at W0
    have HS := Lib.hid hS
    have hszw : ((readS f 0 N).size : Int) = (N : Int) := by rw [readS_size]
    cases hin : inB N a sx.size with
    | false =>
      have hz : writeF N f a sx = f := by unfold writeF; rw [hin]; rfl
      rw [hin, cond_false, hz] at W0
      have hbad : a < 0 ∨ (N : Int) - sx.size < a := by
        by_cases h : a < 0
        · exact .inl h
        · refine .inr ?_
          by_cases h2 : a ≤ N - (sx.size : Int)
          · rw [inB_iff.2 ⟨by omega, by omega, by omega, by omega⟩] at hin
            cases hin
          · omega
      have wsub : IntKind.i64.wrap ((N : Int) - (sx.size : Int)) = (N : Int) - (sx.size : Int) := IntWalk.i64_in _ (by have := HL.out; omega)
      have HN := Lib.hid hN
      have HR0 := Lib.hid hr0
      have HINN := Lib.hid hinN
      clear hin hr0 hz hS hN hinN
      generalize hX : readS f 0 N = X at *
      go_wp2_with fail
      refine M0.mono ?_
      rintro r w' ⟨rfl, rfl⟩
      go_wp2_with fail
      refine R0.mono ?_
      rintro r w' ⟨rfl, rfl⟩
      go_wp2_with fail
      refine W0.mono ?_
      rintro r w4 ⟨rfl, hA, hg⟩
      have hS4 := HS.out.write HG.out hA hg
      have M1 := size_N hS4.arena
      have R1 := read_N hS4.glob hS4.arena 0 (N : Int)
      rw [chkN_code, HINN.out, cond_true, HR0.out] at R1
      have HB := Lib.hid hS4.below
      clear M0 R0 W0 hA hg hS4 HS HR0 HINN hX
      go_wp2_with fail
      refine M1.mono ?_
      rintro r w' ⟨rfl, rfl⟩
      go_wp2_with fail
      refine R1.mono ?_
      rintro r w' ⟨rfl, rfl⟩
      go_wp2_with fail
      refine M1.mono ?_
      rintro r w' ⟨rfl, rfl⟩
      go_wp2_with fail
      refine M1.mono ?_
      rintro r w' ⟨rfl, rfl⟩
      clear R1
      by_cases ha : a < 0
      · have g1 : decide (a < 0) = true := decide_eq_true ha
        clear hbad ha
        go_wp2
        go_ret
        exact ⟨rfl, HB.out⟩
      · have g1 : decide (a < 0) = false := dec_false ha
        have g2 : decide ((N : Int) - (sx.size : Int) < a) = true := decide_eq_true (by omega)
        clear hbad ha
        go_wp2_with fail
        refine M1.mono ?_
        rintro r w' ⟨rfl, rfl⟩
        clear M1
        go_wp2
        go_ret
        exact ⟨rfl, HB.out⟩
    | true =>
      obtain ⟨q1, q2, q3, q4⟩ := inB_iff.1 hin
      obtain ⟨A, rfl⟩ : ∃ A : Nat, a = A := ⟨a.toNat, by omega⟩
      have hAK : A + sx.size ≤ N := by omega
      have hz : writeF N f (A : Int) sx = put f A (bytesOf sx) := by unfold writeF; rw [hin]; rfl
      rw [hin, cond_true, hz] at W0
      have HIN := Lib.hid hin
      have HINN := Lib.hid hinN
      have wsub : IntKind.i64.wrap ((N : Int) - (sx.size : Int)) = (N : Int) - (sx.size : Int) := IntWalk.i64_in _ (by have := HL.out; omega)
      have wadd : IntKind.i64.wrap ((A : Int) + (sx.size : Int)) = (A : Int) + (sx.size : Int) := IntWalk.i64_in _ (by have := HL.out; omega)
      have g1 : decide ((A : Int) < 0) = false := dec_false (by omega)
      have g2 : decide ((N : Int) - (sx.size : Int) < (A : Int)) = false := dec_false (by omega)
      have HX := Lib.hid (show (readS f 0 N).size = N from readS_size f 0 N)
      have hx1 : (readS f 0 N).extract 0 A = readS f 0 A := by
        obtain ⟨R, rfl⟩ : ∃ R, N = A + R := ⟨N - A, by omega⟩
        exact readS_fst f A R
      have hx2 : (readS f 0 N).extract (A + sx.size) N = readS f (A + sx.size) (N - (A + sx.size)) := by
        obtain ⟨R, rfl⟩ : ∃ R, N = A + sx.size + R := ⟨N - (A + sx.size), by omega⟩
        rw [Nat.add_sub_cancel_left]
        exact readS_snd f (A + sx.size) R
      have hsum := back_sum (f := f) hAK
      have hb1 : readN N (put f A (bytesOf sx)) 0 (N : Int) = readS (put f A (bytesOf sx)) 0 N := by unfold readN; rw [hinN]; rfl
      have hb2 : readN N (put f A (bytesOf sx)) (A : Int) (sx.size : Int) = sx := by unfold readN; rw [hin, cond_true, Int.toNat_natCast, Int.toNat_natCast]; exact readS_put f A sx
      have hszn : ((readS (put f A (bytesOf sx)) 0 N).size : Int) = (N : Int) := by rw [readS_size]
      have ht1 : ¬ 9223372036854775807 < (readS f 0 A).size + sx.size := by rw [readS_size]; have := HL.out; omega
      have ht2 : ¬ 9223372036854775807 < (readS f 0 A ++ sx).size + (readS f (A + sx.size) (N - (A + sx.size))).size := by rw [ByteArray.size_append, readS_size, readS_size]; have := HL.out; omega
      have ht3 : ¬ 9223372036854775807 < (readS f 0 A).size + sx.size + (readS f (A + sx.size) (N - (A + sx.size))).size := by rw [readS_size, readS_size]; have := HL.out; omega
      have HB1 := Lib.hid hb1
      have HB2 := Lib.hid hb2
      clear hin hr0 hz hS hinN hb1 hb2
      generalize readS f 0 N = X at *
      generalize readS f 0 A = X1 at *
      generalize readS f (A + sx.size) (N - (A + sx.size)) = X2 at *
      generalize hF : put f A (bytesOf sx) = F at *
      generalize readS F 0 N = Y at *
      go_wp2_with fail
      refine M0.mono ?_
      rintro r w' ⟨rfl, rfl⟩
      go_wp2_with fail
      refine R0.mono ?_
      rintro r w' ⟨rfl, rfl⟩
      go_wp2_with fail
      refine W0.mono ?_
      rintro r w4 ⟨rfl, hA, hg⟩
      have hS4 := HS.out.write HG.out hA hg
      have M1 := size_N hS4.arena
      have R1 := read_N hS4.glob hS4.arena 0 (N : Int)
      rw [chkN_code, HINN.out, cond_true, HB1.out] at R1
      have R2 := read_N hS4.glob hS4.arena (A : Int) (sx.size : Int)
      rw [chkN_code, HIN.out, cond_true, HB2.out] at R2
      have HB := Lib.hid hS4.below
      clear M0 R0 W0 hA hg hS4 HS HINN HIN HB1 HB2 hF
      go_wp2_with fail
      refine M1.mono ?_
      rintro r w' ⟨rfl, rfl⟩
      go_wp2_with fail
      refine R1.mono ?_
      rintro r w' ⟨rfl, rfl⟩
      go_wp2_with fail
      refine M1.mono ?_
      rintro r w' ⟨rfl, rfl⟩
      go_wp2_with fail
      refine M1.mono ?_
      rintro r w' ⟨rfl, rfl⟩
      go_wp2_with fail
      refine M1.mono ?_
      rintro r w' ⟨rfl, rfl⟩
      go_wp2_with fail
      refine R2.mono ?_
      rintro r w' ⟨rfl, rfl⟩
      clear R1 R2 M1
      go_wp2
      have hXs := HX.out
      have i1 : (0 : Int) ≤ (A : Int) + (sx.size : Int) := by omega
      have i2 : (A : Int) + (sx.size : Int) ≤ (N : Int) := by omega
      have i3 : ((A : Int) + (sx.size : Int)).toNat = A + sx.size := by omega
      refine wp_region_still_tail 26 (by kernel_rfl) (by kernel_rfl) ?_
      simp only [List.take_succ_cons, List.take_zero, List.drop_succ_cons, List.drop_zero]
      repeat still_step
      refine wpStill_nil ?_
      change wpList _ _ _ _ _ w4.drew
      go_wp2
      go_ret
      exact ⟨rfl, HB.out.drew⟩
end Go.Proofs.YtjoghbpekpgkpaaDoor

namespace Go.Proofs.YtjoghbpekpgkpaaDoor.lawArenaBack
open Go.ChangeShapes Go.WideShapes Go.ChangeAt Go.RowKit
set_option maxRecDepth 100000 in
theorem told (H : Type) (enc : TypeId × Value → H) (W : World) (base : Nat) (args : Array Value) (ds gs : List (DataW H)) (before : List MemPlace)
    (hval : ∀ (j : Nat) t v, Tryd.f5.params[j]? = some t → args[j]? = some v → Value.okWide Tryd.prog W .any base t v)
    (hW : DataW.Whole enc Tryd.prog Tryd.f5.params.toList Rows.arenaBackSpec.vars false W args.toList ds gs before) (hL : laidMetH Tryd.prog laidL W) :
    Calls Tryd.prog 5 args W fun e W' => ∃ v, e = .returned v ∧ Rows.arenaBackSpec.post enc Tryd.prog Tryd.f5 false true false false W args v W' := by
  have hW' := hW
  obtain ⟨p, q, hA0, hV, rfl, hfz, hnd⟩ := hW
  have hA : DataW.TrodAll enc Tryd.prog W 0 (fun _ => true) true Tryd.f5.params.toList args.toList ds p := hA0
  rw [Tryd.params5] at hA hval
  obtain ⟨v0, vs0, d0, ds0, p0, q0, hargs, rfl, rfl, h0, r0⟩ := trodAll_cons hA
  obtain ⟨v1, vs1, d1, ds1, p1, q1, rfl, rfl, rfl, h1, r1⟩ := trodAll_cons r0
  obtain ⟨v2, vs2, d2, ds2, p2, q2, rfl, rfl, rfl, h2, r2⟩ := trodAll_cons r1
  obtain ⟨v3, vs3, d3, ds3, p3, q3, rfl, rfl, rfl, h3, r3⟩ := trodAll_cons r2
  obtain ⟨rfl, rfl, rfl⟩ := trodAll_nil r3
  obtain rfl : args = #[v0, v1, v2, v3] := by cases args; simp_all
  obtain ⟨rfl, rfl⟩ := trodVars_none hV
  have k0 := h0
  have k1 := h1
  have k2 := h2
  have k3 := h3
  obtain ⟨x0, rfl, rfl, rfl, wx0⟩ := open_int Tryd.underlying3 (hval 0 3 v0 rfl rfl) h0
  obtain ⟨l1, i1⟩ := ops_open (hval 1 34 v1 rfl rfl) h1
  obtain ⟨x2, rfl, rfl, rfl, wx2⟩ := open_int Tryd.underlying3 (hval 2 3 v2 rfl rfl) h2
  obtain ⟨x3, rfl⟩ := string_open (hval 3 9 v3 rfl rfl) h3
  clear hA0
  simp only [List.append_nil] at hW'
  obtain ⟨E, hGl⟩ := glob_of_laid hL
  refine (back_law hGl x0 i1 x2 x3 wx0).mono fun e W' ⟨he, hb⟩ => ?_
  subst he
  have hlt := hW'.lt
  have harg0 := Below.trod laidOut (by kernel_rfl) (of_decide_eq_true (by kernel_rfl)) k0 hb (fun y hy => by first | (cases hy; done) | (simpa using hlt y (by simp [hy])))
  have harg1 := Below.trod laidOut (by kernel_rfl) (of_decide_eq_true (by kernel_rfl)) k1 hb (fun y hy => by first | (cases hy; done) | (simpa using hlt y (by simp [hy])))
  have harg2 := Below.trod laidOut (by kernel_rfl) (of_decide_eq_true (by kernel_rfl)) k2 hb (fun y hy => by first | (cases hy; done) | (simpa using hlt y (by simp [hy])))
  have harg3 := Below.trod laidOut (by kernel_rfl) (of_decide_eq_true (by kernel_rfl)) k3 hb (fun y hy => by first | (cases hy; done) | (simpa using hlt y (by simp [hy])))
  exact ⟨_, rfl, _, _, _, [], _, [], hW', trodAll_cons_mk (shut_bool Tryd.underlying4 _) trodAll_mk0, (trodAll_cons_mk harg0 (trodAll_cons_mk harg1 (trodAll_cons_mk harg2 (trodAll_cons_mk harg3 trodAll_mk0)))), rfl, hb.frame _, fun h => by cases h⟩

set_option maxRecDepth 100000 in
theorem lifted (os : Os) (started : os.Started) (H : Type) (enc : TypeId × Value → H) :
    ReturnsInHanded {} Tryd.checked os 5 .any (fun w args => (Rows.arenaBackSpec.pre enc Tryd.prog Tryd.f5 [] false w args ∧ laidMetH Tryd.prog laidL w) ∧ sizedMet enc Tryd.prog Tryd.f5 (OpenSpec.ofChange Rows.arenaBackSpec) false w args)
      (Rows.arenaBackSpec.post enc Tryd.prog Tryd.f5 false true false false) := by
  refine returnsInHanded_of_change_and (C := Tryd.checked) (X := fun w _ => laidMetH Tryd.prog laidL w) (fun _ _ _ hh h => h.of_heap hh) own started (by kernel_rfl) Tryd.func5
    (ChangeSpec.witness_shaped (enc := enc) (C := Tryd.checked) (os := os) (X := fun w _ => laidMetH Tryd.prog laidL w) false (World.doorLaid Tryd.prog 123 os) #[.int .i64 0, .slice none 0 0, .int .i64 0, .string ⟨#[]⟩] 8 rfl (World.shaped_of_RefB (by kernel_rfl) (by kernel_rfl)) (by kernel_rfl) (by kernel_rfl) (by kernel_rfl) (door_met os _)) ?_
  intro W base args ds gs before hval hW _ _ hL _
  exact told H enc W base args ds gs before hval hW hL

theorem said : Rows.ArenaBackSaid :=
  OpenClaim.holds_of_wide 5 Tryd.f5 rfl rfl rfl rfl rfl rfl rfl ⟨rfl, rfl, rfl, rfl, rfl⟩ rfl rfl rfl rfl rfl (by kernel_rfl) Tryd.func5 (by kernel_rfl)
    (of_decide_eq_true (by kernel_rfl)) (by unfold Func.isWrapper; first | (rw [if_pos (by decide +kernel)]; kernel_rfl) | (rw [if_neg (by decide +kernel)]; exact ⟨rfl, rfl⟩))
    (fun os started H enc _ => lifted os started H enc)

theorem plain (f : FuncId) (fn : Func) (hf : Tryd.pinned.checked.prog.funcNamed "selion/selionlaw03.ArenaBack" = some f) (hfn : Tryd.pinned.checked.prog.funcs[f]? = some fn) :
    true = Tryd.pinned.checked.prog.looks [] ∧ ∀ (j : Nat) t, fn.params[j]? = some t → Tryd.pinned.checked.prog.wantsStandIn t = false := by
  obtain rfl : f = 5 := Option.some.inj ((show Tryd.prog.funcNamed "selion/selionlaw03.ArenaBack" = some 5 by kernel_rfl).symm.trans hf) |>.symm
  obtain rfl : fn = Tryd.f5 := (Option.some.inj (Tryd.func5.symm.trans hfn)).symm
  refine ⟨by kernel_rfl, fun j t ht => ?_⟩
  have hm : t ∈ Tryd.f5.params := Array.mem_of_getElem? ht
  rw [Tryd.params5] at hm
  have hm' : t = 3 ∨ t = 34 ∨ t = 3 ∨ t = 9 := by simpa using hm
  rcases hm' with rfl | rfl | rfl | rfl
  · exact (show Tryd.prog.wantsStandIn 3 = false by kernel_rfl)
  · exact (show Tryd.prog.wantsStandIn 34 = false by kernel_rfl)
  · exact (show Tryd.prog.wantsStandIn 3 = false by kernel_rfl)
  · exact (show Tryd.prog.wantsStandIn 9 = false by kernel_rfl)

/-- THE CARD. -/
theorem card : Rows.ArenaBackCardSaid :=
  Claim7.holds_tied_plain_at .later [] _ _ _ _ said (fun _ h => by cases h) (by kernel_rfl) (fun _ h => by cases h) arenaBack_row_tie rfl ⟨rfl, rfl⟩ (by kernel_rfl) rfl plain (by kernel_rfl)
end Go.Proofs.YtjoghbpekpgkpaaDoor.lawArenaBack

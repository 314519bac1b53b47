/- ArenaZeroes holds of all numbers of blocks, calls, places, numbers: the law's own text walked, and the card. -/
import Derived.Test.YtjoghbpekpgkpaaDoorN14
import Derived.Test.YtjoghbpekpgkpaaDoorCards
import Derived.Test.YtjoghbpekpgkpaaDoorTie
namespace Go.Proofs.YtjoghbpekpgkpaaDoor
open Go Go.RowKit Go.Shelf
attribute [local go_sem ↓] Go.wp_at_zero Go.wp_at_succ
attribute [local go_sem ↓] run_max_int run_min_int

theorem cntP_split (f : Nat → Nat) (a : Nat) : ∀ k, cntP f (a + k) = cntP f a + cntP (fun i => f (a + i)) k
  | 0 => rfl
  | k + 1 => by rw [← Nat.add_assoc, cntP, cntP_split f a k, cntP, Nat.add_assoc]
theorem cntP_congr {f h : Nat → Nat} : ∀ (k : Nat), (∀ j, j < k → f j = h j) → cntP f k = cntP h k
  | 0, _ => rfl
  | k + 1, he => by rw [cntP, cntP, cntP_congr k (fun j hj => he j (by omega)), he k (by omega)]
theorem cntP_zeros (k : Nat) : cntP (fun _ => 0) k = 0 := by
  induction k with
  | zero => rfl
  | succ k ih => rw [cntP, ih]; rfl
theorem cnt_zero {f : Nat → Nat} {A K N : Nat} (h : A + K ≤ N) : cntP (put f A (List.replicate K 0)) N + cntP (fun i => f (A + i)) K = cntP f N := by
  obtain ⟨R, rfl⟩ : ∃ R, N = A + K + R := ⟨N - (A + K), by omega⟩
  have hl : (List.replicate K 0).length = K := List.length_replicate
  have e1 : cntP (put f A (List.replicate K 0)) A = cntP f A := cntP_congr A fun j hj => by unfold put; rw [if_neg (by omega)]
  have e2 : cntP (fun i => put f A (List.replicate K 0) (A + i)) K = 0 := by
    rw [cntP_congr (h := fun _ => 0) K (fun j hj => by
      show put f A (List.replicate K 0) (A + j) = 0
      unfold put
      rw [hl, if_pos (by omega), Nat.add_sub_cancel_left, List.getD_eq_getElem?_getD]
      simp [hj]), cntP_zeros]
  have e3 : cntP (fun i => put f A (List.replicate K 0) (A + K + i)) R = cntP (fun i => f (A + K + i)) R := cntP_congr R fun j _ => by
    show put f A (List.replicate K 0) (A + K + j) = f (A + K + j)
    unfold put
    rw [hl, if_neg (by omega)]
  rw [cntP_split _ (A + K) R, cntP_split _ A K, e1, e2, e3, cntP_split f (A + K) R, cntP_split f A K]
  omega
theorem readS_zero {f : Nat → Nat} {A K : Nat} : readS (put f A (List.replicate K 0)) A K = readS (fun _ => 0) 0 K := by
  unfold readS
  congr 2
  refine List.map_congr_left fun i hi => ?_
  have hi' := List.mem_range.1 hi
  unfold put
  rw [List.length_replicate, if_pos (by omega), Nat.add_sub_cancel_left, List.getD_eq_getElem?_getD]
  simp [hi']
theorem readS_at {f : Nat → Nat} {A K k : Nat} (h8 : ∀ j, f j < 256) (h : k < (readS f A K).size) : ((readS f A K)[k]'h).toNat = f (A + k) := by
  have hk : k < K := by rwa [readS_size] at h
  have e : (readS f A K)[k]'h = UInt8.ofNat (f (A + k)) := by
    show ((List.range K).map fun i => UInt8.ofNat (f (A + i)))[k]'(by rw [List.length_map, List.length_range]; exact hk) = _
    rw [List.getElem_map, List.getElem_range]
  rw [e]
  have := h8 (A + k)
  simp
  omega
theorem sub_cnt {x y z : Nat} (h : x + z = y) (hy : y ≤ 1000000) : IntKind.i64.wrap ((y : Int) - (z : Int)) = (x : Int) := by
  rw [IntWalk.i64_in _ (by omega)]
  omega

set_option maxHeartbeats 4000000 in
set_option maxRecDepth 20000 in
theorem zeroes_law {E : EnvN} {w : World} (hG : GlobN E w) (b : Int) {v : Value} {l : List XOp} (hv : OpsV w v l) (a n : Int) (hb : (Lit.int .i64 b).wf = true) :
    Calls Tryd.prog 7 #[.int .i64 b, v, .int .i64 a, .int .i64 n] w fun r w' => r = .returned (.bool true) ∧ Below w.heap.size w w' := by
  obtain ⟨hb1, hb2⟩ := wf_i64 hb
  have m0 := shown_N hG
  have HG := Lib.hid hG
  clear hG hb
  go_enter Tryd.func7, Tryd.ntmps7
  go_wp2_with fail
  refine m0.mono ?_
  rintro r w1 ⟨rfl, hB⟩
  clear m0
  cases h : okN b with
  | false =>
    have m1 := made_no (HG.out.below hB) hb1 hb2 h v
    clear h hb1 hb2
    go_wp2_with fail
    refine m1.mono ?_
    rintro r w2 ⟨rfl, hb⟩
    have HB := Lib.hid (blN hB hb)
    clear m1 hB hb
    go_wp2
    go_ret
    exact ⟨rfl, HB.out⟩
  | true =>
    obtain ⟨k, rfl, h1, h2⟩ := okN_iff h
    have m1 := made_yes (HG.out.below hB) h1 h2 (hv.below hB)
    have hN : 4096 * k ≤ 1000000 := by omega
    generalize playF (4096 * k) (fun _ => 0) (cutO l) = f at *
    generalize 4096 * k = N at *
    clear h hb1 hb2 h1 h2 hv
    go_wp2_with fail
    refine m1.mono ?_
    rintro r w2 ⟨⟨p, g, rfl, hp, hg, hA⟩, hb⟩
    have hB2 := blN hB hb
    have hS : St E w p g N f w2 := ⟨hB2, HG.out.below hB2, hA, Nat.le_trans hB.size hp, Nat.le_trans hB.size hg⟩
    clear m1 hp hg hB hb hA hB2
    have R1 := read_N hS.glob hS.arena a n
    rw [chkN_code] at R1
    have M1 := count_N hS.arena
    cases hin : inB N a n with
    | false =>
      have r1 : readN N f a n = ⟨#[]⟩ := by unfold readN; rw [hin]; rfl
      rw [hin, cond_false, r1] at R1
      have HS := Lib.hid hS
      have HIN := Lib.hid hin
      clear hin r1 hS hN
      generalize hy : cntP f N = y at *
      have HY := Lib.hid hy
      clear hy
      go_wp2_with fail
      refine R1.mono ?_
      rintro r w' ⟨rfl, rfl⟩
      go_wp2_with fail
      refine M1.mono ?_
      rintro r w3 ⟨rfl, hb⟩
      have hS := HS.out.read hb
      have Z := zero_N hS.glob hS.arena a n
      have hz : zeroF N f a n = f := by unfold zeroF; rw [HIN.out]; rfl
      rw [chkN_code, HIN.out, cond_false, hz] at Z
      have HS3 := Lib.hid hS
      clear M1 R1 hb hS HS hz
      go_wp2_with fail
      refine Z.mono ?_
      rintro r w4 ⟨rfl, hA, hg⟩
      have hS := HS3.out.write HG.out hA hg
      have M1 := count_N hS.arena
      rw [HY.out] at M1
      have HS4 := Lib.hid hS
      clear Z hA hg hS HS3
      go_wp2_with fail
      refine M1.mono ?_
      rintro r w5 ⟨rfl, hb⟩
      have HB := Lib.hid (HS4.out.read hb).below
      clear M1 hb HS4
      go_wp2
      go_ret
      exact ⟨rfl, HB.out⟩
    | true =>
      obtain ⟨q1, q2, q3, q4⟩ := inB_iff.1 hin
      obtain ⟨A, rfl⟩ : ∃ A : Nat, a = A := ⟨a.toNat, by omega⟩
      obtain ⟨K, rfl⟩ : ∃ K : Nat, n = K := ⟨n.toNat, by omega⟩
      have hAK : A + K ≤ N := by omega
      have hr : readN N f (A : Int) (K : Int) = readS f A K := by unfold readN; rw [hin]; rfl
      rw [hin, cond_true, hr] at R1
      have hsz : ((readS f A K).size : Int) = (K : Int) := by rw [readS_size]
      have HIX := Lib.hid (fun k (h : k < (readS f A K).size) => readS_at (A := A) (K := K) hS.arena.arr.by8 h)
      have hszN : (readS f A K).size = K := readS_size f A K
      have HSZ := Lib.hid hszN
      have HC := Lib.hid (cnt_zero (f := f) hAK)
      have HS := Lib.hid hS
      have HIN := Lib.hid hin
      have hy1 : cntP f N ≤ 1000000 := Nat.le_trans (cntP_le f N) hN
      have hKN : K ≤ 1000000 := by omega
      clear hin hr hS hN q1 q2 q3 q4 hAK hszN
      generalize readS f A K = s at *
      generalize hy : cntP f N = y at *
      go_wp2_with fail
      refine R1.mono ?_
      rintro r w' ⟨rfl, rfl⟩
      go_wp2_with fail
      refine M1.mono ?_
      rintro r w3 ⟨rfl, hb⟩
      have hS := HS.out.read hb
      have Z := zero_N hS.glob hS.arena (A : Int) (K : Int)
      have hz : zeroF N f (A : Int) (K : Int) = put f A (List.replicate K 0) := by unfold zeroF; rw [HIN.out]; rfl
      rw [chkN_code, HIN.out, cond_true, hz] at Z
      have HS3 := Lib.hid hS
      clear M1 R1 hb hS HS hz
      go_wp2_with fail
      refine Z.mono ?_
      rintro r w4 ⟨rfl, hA, hg⟩
      have hS := HS3.out.write HG.out hA hg
      have R2 := read_N hS.glob hS.arena (A : Int) (K : Int)
      have hr : readN N (put f A (List.replicate K 0)) (A : Int) (K : Int) = readS (fun _ => 0) 0 K := by unfold readN; rw [HIN.out]; exact readS_zero
      rw [chkN_code, HIN.out, cond_true, hr] at R2
      have HS4 := Lib.hid hS
      have hcv := conv_B (ArB.made w4 5 K hKN) 0 K K 0 (by omega) (.inl rfl)
      have hmk := run_makeB w4 K hKN
      have hb5 : Below w4.heap.size w4 (w4.alloc (.cells (madeCells #[.int .u8 0] K) 5)) := (Below.refl _ _).alloc (Nat.le_refl _) _
      have hS5 := hS.read hb5
      generalize hw5 : w4.alloc (.cells (madeCells #[.int .u8 0] K) 5) = w5 at *
      have M1 := count_N hS5.arena
      have HS5 := Lib.hid hS5
      clear hS Z hA hg hr HS3 hS5 hb5
      have hsz0 : ((readS (fun _ => 0) 0 K).size : Int) = (K : Int) := by rw [readS_size]
      generalize readS (fun _ => 0) 0 K = z0 at *
      generalize cntP (put f A (List.replicate K 0)) N = x at *
      have HW5 := Lib.hid hw5
      clear hw5
      go_wp2
      go_loopw [16, 17] (fun o q W => ∃ j : Nat, j ≤ K ∧ q = .int .i64 (j : Int) ∧ o = .int .i64 ((cntP (fun i => f (A + i)) j : Nat) : Int) ∧ W = w4) (fun _ q _ => K - (intOf q).toNat)
      case atStart => exact ⟨0, Nat.zero_le _, rfl, rfl, rfl⟩
      case round =>
        obtain ⟨j, hj, rfl, rfl, rfl⟩ := hrel
        by_cases hlt : j < K
        · have hbk : ∀ h : j < s.size, (s[j]'h).toNat = f (A + j) := fun h => HIX.out j h
          have i1 : (0 : Int) ≤ (j : Int) := by omega
          have i2 : (j : Int) < (s.size : Int) := by omega
          have hcs : cntP (fun i => f (A + i)) (j + 1) = cntP (fun i => f (A + i)) j + min (f (A + j)) 1 := rfl
          have hle := cntP_le (fun i => f (A + i)) j
          have HCS := Lib.hid hcs
          have i3 : IntKind.i64.wrap ((j : Int) + 1) = (j : Int) + 1 := IntWalk.i64_in _ (by omega)
          have i4 : IntKind.i64.wrap (((cntP (fun i => f (A + i)) j : Nat) : Int) + 1) = ((cntP (fun i => f (A + i)) j : Nat) : Int) + 1 := IntWalk.i64_in _ (by omega)
          generalize cntP (fun i => f (A + i)) j = c at *
          generalize f (A + j) = x0 at *
          clear hcs hle hsz hsz0 hmk hcv R2 M1
          by_cases hx : x0 = 0
          · subst hx
            go_wp2
            go_round
            case rel => exact ⟨j + 1, by omega, by go_num, by rw [HCS.out]; rfl, trivial⟩
            case measure => simp [intOf]; omega
          · have hx2 : ¬ ((x0 : Int) = 0) := by omega
            have HM : Hid (min x0 1 = 1) := Lib.hid (by omega)
            clear hx
            go_wp2
            go_round
            case rel => exact ⟨j + 1, by omega, by go_num, by rw [HCS.out, HM.out]; go_num, trivial⟩
            case measure => simp [intOf]; omega
        · obtain rfl : j = K := by omega
          have wsub := sub_cnt HC.out hy1
          generalize cntP (fun i => f (A + i)) j = c at *
          clear hlt hj HC hy1 hKN hy HIX HIN
          go_wp2_with fail
          refine R2.mono ?_
          rintro r w' ⟨rfl, rfl⟩
          clear R2
          go_wp2_with fail
          first | (rw [HW5.out]; refine M1.mono ?_) | (refine M1.mono ?_)
          rintro r w6 ⟨rfl, hb⟩
          have HB := Lib.hid (HS5.out.read hb).below
          clear M1 hb HS5 HS4 HW5
          go_wp2
          go_ret
          exact ⟨rfl, HB.out⟩
end Go.Proofs.YtjoghbpekpgkpaaDoor

namespace Go.Proofs.YtjoghbpekpgkpaaDoor.lawArenaZeroes
open Go.ChangeShapes Go.WideShapes Go.ChangeAt Go.RowKit
set_option maxRecDepth 100000 in
theorem told (H : Type) (enc : TypeId × Value → H) (W : World) (base : Nat) (args : Array Value) (ds gs : List (DataW H)) (before : List MemPlace)
    (hval : ∀ (j : Nat) t v, Tryd.f7.params[j]? = some t → args[j]? = some v → Value.okWide Tryd.prog W .any base t v)
    (hW : DataW.Whole enc Tryd.prog Tryd.f7.params.toList Rows.arenaZeroesSpec.vars false W args.toList ds gs before) (hL : laidMetH Tryd.prog laidL W) :
    Calls Tryd.prog 7 args W fun e W' => ∃ v, e = .returned v ∧ Rows.arenaZeroesSpec.post enc Tryd.prog Tryd.f7 false true false false W args v W' := by
  have hW' := hW
  obtain ⟨p, q, hA0, hV, rfl, hfz, hnd⟩ := hW
  have hA : DataW.TrodAll enc Tryd.prog W 0 (fun _ => true) true Tryd.f7.params.toList args.toList ds p := hA0
  rw [Tryd.params7] at hA hval
  obtain ⟨v0, vs0, d0, ds0, p0, q0, hargs, rfl, rfl, h0, r0⟩ := trodAll_cons hA
  obtain ⟨v1, vs1, d1, ds1, p1, q1, rfl, rfl, rfl, h1, r1⟩ := trodAll_cons r0
  obtain ⟨v2, vs2, d2, ds2, p2, q2, rfl, rfl, rfl, h2, r2⟩ := trodAll_cons r1
  obtain ⟨v3, vs3, d3, ds3, p3, q3, rfl, rfl, rfl, h3, r3⟩ := trodAll_cons r2
  obtain ⟨rfl, rfl, rfl⟩ := trodAll_nil r3
  obtain rfl : args = #[v0, v1, v2, v3] := by cases args; simp_all
  obtain ⟨rfl, rfl⟩ := trodVars_none hV
  have k0 := h0
  have k1 := h1
  have k2 := h2
  have k3 := h3
  obtain ⟨x0, rfl, rfl, rfl, wx0⟩ := open_int Tryd.underlying3 (hval 0 3 v0 rfl rfl) h0
  obtain ⟨l1, i1⟩ := ops_open (hval 1 34 v1 rfl rfl) h1
  obtain ⟨x2, rfl, rfl, rfl, wx2⟩ := open_int Tryd.underlying3 (hval 2 3 v2 rfl rfl) h2
  obtain ⟨x3, rfl, rfl, rfl, wx3⟩ := open_int Tryd.underlying3 (hval 3 3 v3 rfl rfl) h3
  clear hA0
  simp only [List.append_nil] at hW'
  obtain ⟨E, hGl⟩ := glob_of_laid hL
  refine (zeroes_law hGl x0 i1 x2 x3 wx0).mono fun e W' ⟨he, hb⟩ => ?_
  subst he
  have hlt := hW'.lt
  have harg0 := Below.trod laidOut (by kernel_rfl) (of_decide_eq_true (by kernel_rfl)) k0 hb (fun y hy => by first | (cases hy; done) | (simpa using hlt y (by simp [hy])))
  have harg1 := Below.trod laidOut (by kernel_rfl) (of_decide_eq_true (by kernel_rfl)) k1 hb (fun y hy => by first | (cases hy; done) | (simpa using hlt y (by simp [hy])))
  have harg2 := Below.trod laidOut (by kernel_rfl) (of_decide_eq_true (by kernel_rfl)) k2 hb (fun y hy => by first | (cases hy; done) | (simpa using hlt y (by simp [hy])))
  have harg3 := Below.trod laidOut (by kernel_rfl) (of_decide_eq_true (by kernel_rfl)) k3 hb (fun y hy => by first | (cases hy; done) | (simpa using hlt y (by simp [hy])))
  exact ⟨_, rfl, _, _, _, [], _, [], hW', trodAll_cons_mk (shut_bool Tryd.underlying4 _) trodAll_mk0, (trodAll_cons_mk harg0 (trodAll_cons_mk harg1 (trodAll_cons_mk harg2 (trodAll_cons_mk harg3 trodAll_mk0)))), rfl, hb.frame _, fun h => by cases h⟩

set_option maxRecDepth 100000 in
theorem lifted (os : Os) (started : os.Started) (H : Type) (enc : TypeId × Value → H) :
    ReturnsInHanded {} Tryd.checked os 7 .any (fun w args => (Rows.arenaZeroesSpec.pre enc Tryd.prog Tryd.f7 [] false w args ∧ laidMetH Tryd.prog laidL w) ∧ sizedMet enc Tryd.prog Tryd.f7 (OpenSpec.ofChange Rows.arenaZeroesSpec) false w args)
      (Rows.arenaZeroesSpec.post enc Tryd.prog Tryd.f7 false true false false) := by
  refine returnsInHanded_of_change_and (C := Tryd.checked) (X := fun w _ => laidMetH Tryd.prog laidL w) (fun _ _ _ hh h => h.of_heap hh) own started (by kernel_rfl) Tryd.func7
    (ChangeSpec.witness_shaped (enc := enc) (C := Tryd.checked) (os := os) (X := fun w _ => laidMetH Tryd.prog laidL w) false (World.doorLaid Tryd.prog 123 os) #[.int .i64 0, .slice none 0 0, .int .i64 0, .int .i64 0] 8 rfl (World.shaped_of_RefB (by kernel_rfl) (by kernel_rfl)) (by kernel_rfl) (by kernel_rfl) (by kernel_rfl) (door_met os _)) ?_
  intro W base args ds gs before hval hW _ _ hL _
  exact told H enc W base args ds gs before hval hW hL

theorem said : Rows.ArenaZeroesSaid :=
  OpenClaim.holds_of_wide 7 Tryd.f7 rfl rfl rfl rfl rfl rfl rfl ⟨rfl, rfl, rfl, rfl, rfl⟩ rfl rfl rfl rfl rfl (by kernel_rfl) Tryd.func7 (by kernel_rfl)
    (of_decide_eq_true (by kernel_rfl)) (by unfold Func.isWrapper; first | (rw [if_pos (by decide +kernel)]; kernel_rfl) | (rw [if_neg (by decide +kernel)]; exact ⟨rfl, rfl⟩))
    (fun os started H enc _ => lifted os started H enc)

theorem plain (f : FuncId) (fn : Func) (hf : Tryd.pinned.checked.prog.funcNamed "selion/selionlaw03.ArenaZeroes" = some f) (hfn : Tryd.pinned.checked.prog.funcs[f]? = some fn) :
    true = Tryd.pinned.checked.prog.looks [] ∧ ∀ (j : Nat) t, fn.params[j]? = some t → Tryd.pinned.checked.prog.wantsStandIn t = false := by
  obtain rfl : f = 7 := Option.some.inj ((show Tryd.prog.funcNamed "selion/selionlaw03.ArenaZeroes" = some 7 by kernel_rfl).symm.trans hf) |>.symm
  obtain rfl : fn = Tryd.f7 := (Option.some.inj (Tryd.func7.symm.trans hfn)).symm
  refine ⟨by kernel_rfl, fun j t ht => ?_⟩
  have hm : t ∈ Tryd.f7.params := Array.mem_of_getElem? ht
  rw [Tryd.params7] at hm
  have hm' : t = 3 ∨ t = 34 ∨ t = 3 := by simpa using hm
  rcases hm' with rfl | rfl | rfl
  · exact (show Tryd.prog.wantsStandIn 3 = false by kernel_rfl)
  · exact (show Tryd.prog.wantsStandIn 34 = false by kernel_rfl)
  · exact (show Tryd.prog.wantsStandIn 3 = false by kernel_rfl)

/-- THE CARD. -/
theorem card : Rows.ArenaZeroesCardSaid :=
  Claim7.holds_tied_plain_at .later [] _ _ _ _ said (fun _ h => by cases h) (by kernel_rfl) (fun _ h => by cases h) arenaZeroes_row_tie rfl ⟨rfl, rfl⟩ (by kernel_rfl) rfl plain (by kernel_rfl)
end Go.Proofs.YtjoghbpekpgkpaaDoor.lawArenaZeroes

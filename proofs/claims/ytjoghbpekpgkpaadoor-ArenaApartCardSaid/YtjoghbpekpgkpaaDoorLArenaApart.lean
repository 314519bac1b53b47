/- ArenaApart holds of all numbers of blocks, calls, places, texts: the law's own text walked, and the card. -/
import Derived.Test.YtjoghbpekpgkpaaDoorN14
import Derived.Test.YtjoghbpekpgkpaaDoorCards
import Derived.Test.YtjoghbpekpgkpaaDoorTie
namespace Go.Proofs.YtjoghbpekpgkpaaDoor
open Go Go.RowKit Go.Shelf
attribute [local go_sem ↓] Go.wp_at_zero Go.wp_at_succ
attribute [local go_sem ↓] run_max_int run_min_int

set_option maxHeartbeats 4000000 in
set_option maxRecDepth 20000 in
theorem apart_law {E : EnvN} {w : World} (hG : GlobN E w) (b : Int) {v : Value} {l : List XOp} (hv : OpsV w v l) (a : Int) (s : ByteArray) (c : Int) (t : ByteArray) (hb : (Lit.int .i64 b).wf = true) :
    Calls Tryd.prog 8 #[.int .i64 b, v, .int .i64 a, .string s, .int .i64 c, .string t] w fun r w' => r = .returned (.bool true) ∧ Below w.heap.size w w' := by
  obtain ⟨hb1, hb2⟩ := wf_i64 hb
  have m0 := shown_N hG
  have HG := Lib.hid hG
  obtain ⟨sx, hsx⟩ : ∃ sx, s.extract 0 (min (s.size : Int) 100).toNat = sx := ⟨_, rfl⟩
  obtain ⟨tx, htx⟩ : ∃ tx, t.extract 0 (min (t.size : Int) 100).toNat = tx := ⟨_, rfl⟩
  have hsl : sx.size ≤ 100 := by rw [← hsx]; exact cut_size s 100
  have htl : tx.size ≤ 100 := by rw [← htx]; exact cut_size t 100
  have HL := Lib.hid (And.intro hsl htl)
  clear hG hb hsl htl
  go_enter Tryd.func8, Tryd.ntmps8
  go_wp2_with fail
  refine m0.mono ?_
  rintro r w1 ⟨rfl, hB⟩
  clear m0
  cases h : okN b with
  | false =>
    have m1 := made_no (HG.out.below hB) hb1 hb2 h v
    have HB := Lib.hid hB
    go_wp2_with fail
    refine m1.mono ?_
    rintro r w2 ⟨rfl, hb⟩
    replace hB := blN HB.out hb
    clear m1 hb HB
    have m1 := made_no (HG.out.below hB) hb1 hb2 h v
    have HB := Lib.hid hB
    clear h hb1 hb2 hB
    go_wp2_with fail
    refine m1.mono ?_
    rintro r w3 ⟨rfl, hb⟩
    replace HB := Lib.hid (blN HB.out hb)
    clear m1 hb
    go_wp2
    go_ret
    exact ⟨rfl, HB.out⟩
  | true =>
    obtain ⟨k, rfl, h1, h2⟩ := okN_iff h
    have m1 := made_yes (HG.out.below hB) h1 h2 (hv.below hB)
    clear h hb1 hb2
    have HV := Lib.hid hv
    have HK := Lib.hid (And.intro h1 h2)
    have HB := Lib.hid hB
    clear h1 h2 hv hB
    go_wp2_with fail
    refine m1.mono ?_
    rintro r w2 ⟨⟨p, g, rfl, hp, hg, hA⟩, hb⟩
    have hB2 := blN HB.out hb
    have hSa : St E w p g (4096 * k) (playF (4096 * k) (fun _ => 0) (cutO l)) w2 := ⟨hB2, HG.out.below hB2, hA, Nat.le_trans HB.out.size hp, Nat.le_trans HB.out.size hg⟩
    have m2 := made_yes (HG.out.below hB2) HK.out.1 HK.out.2 (HV.out.below hB2)
    clear m1 hp hg hA hb HB
    have HSa := Lib.hid hSa
    have hl2 : p < w2.heap.size ∧ g < w2.heap.size := ⟨block_lt hSa.arena.box, hSa.arena.arr.lt⟩
    clear hSa hB2
    go_wp2_with fail
    refine m2.mono ?_
    rintro r w3 ⟨⟨p2, q2, rfl, hp, hg, hA⟩, hb⟩
    have hSa := HSa.out.read hb
    have hSb : St E w p2 q2 (4096 * k) (playF (4096 * k) (fun _ => 0) (cutO l)) w3 := ⟨hSa.below, hSa.glob, hA, Nat.le_trans HSa.out.below.size hp, Nat.le_trans HSa.out.below.size hg⟩
    have hne : (p2 ≠ g ∧ q2 ≠ g) ∧ (p ≠ q2 ∧ g ≠ q2) := by omega
    have hN : 4096 * k ≤ 1000000 := hSa.arena.arr.mx
    clear m2 hp hg hA hb HSa hl2 HV HK
    generalize playF (4096 * k) (fun _ => 0) (cutO l) = f at *
    generalize 4096 * k = N at *
    have M1 := size_N hSa.arena
    have HSa := Lib.hid hSa
    have HSb := Lib.hid hSb
    have HB := Lib.hid hSa.below
    clear hSa hSb
    by_cases c1 : a < 0
    · have g1 : decide (a < 0) = true := decide_eq_true c1
      clear c1
      go_wp2; go_ret; exact ⟨rfl, HB.out⟩
    have g1 : decide (a < 0) = false := dec_false c1
    by_cases c2 : c < 0
    · have g2 : decide (c < 0) = true := decide_eq_true c2
      clear c1 c2
      go_wp2; go_ret; exact ⟨rfl, HB.out⟩
    have g2 : decide (c < 0) = false := dec_false c2
    by_cases c3 : (N : Int) < a
    · have g3 : decide ((N : Int) < a) = true := decide_eq_true c3
      clear c1 c2 c3
      go_wp2_with (go_at_call 14; refine M1.mono ?_; rintro r w' ⟨rfl, rfl⟩)
      go_ret; exact ⟨rfl, HB.out⟩
    have g3 : decide ((N : Int) < a) = false := dec_false c3
    by_cases c4 : (N : Int) < c
    · have g4 : decide ((N : Int) < c) = true := decide_eq_true c4
      clear c1 c2 c3 c4
      go_wp2_with (go_at_call 14; refine M1.mono ?_; rintro r w' ⟨rfl, rfl⟩)
      go_ret; exact ⟨rfl, HB.out⟩
    have g4 : decide ((N : Int) < c) = false := dec_false c4
    have wa : IntKind.i64.wrap (a + sx.size) = a + sx.size := IntWalk.i64_in _ (by have := HL.out; omega)
    have wc : IntKind.i64.wrap (c + tx.size) = c + tx.size := IntWalk.i64_in _ (by have := HL.out; omega)
    by_cases c5 : c < a + sx.size ∧ a < c + tx.size
    · have g5 : decide (c < a + sx.size) = true := decide_eq_true c5.1
      have g6 : decide (a < c + tx.size) = true := decide_eq_true c5.2
      clear c1 c2 c3 c4 c5
      go_wp2_with (go_at_call 14; refine M1.mono ?_; rintro r w' ⟨rfl, rfl⟩)
      go_ret; exact ⟨rfl, HB.out⟩
    have hcom := write_apart (N := N) (f := f) (a := a) (b := c) (s := sx) (t := tx) (by omega) (by omega) (by omega)
    have key : ∀ (Q : Prop), (∀ (x : Bool), x = decide (c < a + sx.size) → (x = true → decide (a < c + tx.size) = false) → Q) → Q := fun Q h => h _ rfl (fun e => dec_false (fun e2 => c5 ⟨of_decide_eq_true e, e2⟩))
    refine key _ ?_
    intro x hx hx2
    have g5 := hx.symm
    have W1 := write_N HSa.out.glob HSa.out.arena a sx
    cases x with
    | true =>
      have g6 := hx2 rfl
      clear c1 c2 c3 c4 c5 hx hx2 key HL HB
      go_wp2_with (go_at_call 14; refine M1.mono ?_; rintro r w' ⟨rfl, rfl⟩)
      refine W1.mono ?_
      rintro r w4 ⟨rfl, hA, hg⟩
      have hb4 : St E w p2 q2 N f w4 := ⟨(HSa.out.write HG.out hA hg).below, (HSa.out.write HG.out hA hg).glob, HSb.out.arena.apart hg hne.1.1 hne.1.2, HSb.out.hp, HSb.out.hg⟩
      have HSa4 := Lib.hid (HSa.out.write HG.out hA hg)
      have HSb4 := Lib.hid hb4
      have W2 := write_N HSa4.out.glob HSa4.out.arena c tx
      clear W1 M1 hA hg hb4 HSa HSb
      go_wp2_with fail
      refine W2.mono ?_
      rintro r w5 ⟨rfl, hA, hg⟩
      have hb5 : St E w p2 q2 N f w5 := ⟨(HSa4.out.write HG.out hA hg).below, (HSa4.out.write HG.out hA hg).glob, HSb4.out.arena.apart hg hne.1.1 hne.1.2, HSb4.out.hp, HSb4.out.hg⟩
      have HSa := Lib.hid (HSa4.out.write HG.out hA hg)
      have HSb := Lib.hid hb5
      have W1 := write_N HSb.out.glob HSb.out.arena c tx
      clear W2 hA hg hb5 HSa4 HSb4
      go_wp2_with fail
      refine W1.mono ?_
      rintro r w6 ⟨rfl, hA, hg⟩
      have hb6 : St E w p g N (writeF N (writeF N f a sx) c tx) w6 := ⟨(HSb.out.write HG.out hA hg).below, (HSb.out.write HG.out hA hg).glob, HSa.out.arena.apart hg hne.2.1 hne.2.2, HSa.out.hp, HSa.out.hg⟩
      have HSb6 := Lib.hid (HSb.out.write HG.out hA hg)
      have HSa6 := Lib.hid hb6
      have W2 := write_N HSb6.out.glob HSb6.out.arena a sx
      clear W1 hA hg hb6 HSa HSb
      go_wp2_with fail
      refine W2.mono ?_
      rintro r w7 ⟨rfl, hA, hg⟩
      have hb7 : St E w p g N (writeF N (writeF N f a sx) c tx) w7 := ⟨(HSb6.out.write HG.out hA hg).below, (HSb6.out.write HG.out hA hg).glob, HSa6.out.arena.apart hg hne.2.1 hne.2.2, HSa6.out.hp, HSa6.out.hg⟩
      have hSb := HSb6.out.write HG.out hA hg
      rw [hcom] at hb7
      generalize writeF N (writeF N f c tx) a sx = F at *
      have M1 := size_N hb7.arena
      have M2 := size_N hSb.arena
      have R1 := read_N hb7.glob hb7.arena 0 (N : Int)
      have R2 := read_N hSb.glob hSb.arena 0 (N : Int)
      have hin : inB N 0 (N : Int) = true := inB_iff.2 ⟨by omega, by omega, by omega, by omega⟩
      have hX : readN N F 0 (N : Int) = readS F 0 N := by unfold readN; rw [hin]; rfl
      rw [hX, chkN_code, hin, cond_true] at R1 R2
      have hsz : ((readS F 0 N).size : Int) = (N : Int) := by rw [readS_size]
      generalize readS F 0 N = X at *
      generalize (chkN N a sx.size).code = e1 at *
      generalize (chkN N c tx.size).code = e2 at *
      have HB := Lib.hid hb7.below
      clear W2 hA hg hb7 hSb HSa6 HSb6 hin hX hcom wa wc g1 g2 g3 g4 g5 g6 hsx htx
      go_wp2_with fail
      refine M1.mono ?_
      rintro r w' ⟨rfl, rfl⟩
      go_wp2_with fail
      refine R1.mono ?_
      rintro r w' ⟨rfl, rfl⟩
      go_wp2_with fail
      refine M2.mono ?_
      rintro r w' ⟨rfl, rfl⟩
      go_wp2_with fail
      refine R2.mono ?_
      rintro r w' ⟨rfl, rfl⟩
      go_wp2_with fail
      refine M1.mono ?_
      rintro r w' ⟨rfl, rfl⟩
      clear M1 M2 R1 R2
      go_wp2
      go_ret
      exact ⟨rfl, HB.out⟩
    | false =>
      obtain ⟨g6, -⟩ : True ∧ True := ⟨trivial, trivial⟩
      clear c1 c2 c3 c4 c5 hx hx2 key HL HB
      go_wp2_with (go_at_call 14; refine M1.mono ?_; rintro r w' ⟨rfl, rfl⟩)
      refine W1.mono ?_
      rintro r w4 ⟨rfl, hA, hg⟩
      have hb4 : St E w p2 q2 N f w4 := ⟨(HSa.out.write HG.out hA hg).below, (HSa.out.write HG.out hA hg).glob, HSb.out.arena.apart hg hne.1.1 hne.1.2, HSb.out.hp, HSb.out.hg⟩
      have HSa4 := Lib.hid (HSa.out.write HG.out hA hg)
      have HSb4 := Lib.hid hb4
      have W2 := write_N HSa4.out.glob HSa4.out.arena c tx
      clear W1 M1 hA hg hb4 HSa HSb
      go_wp2_with fail
      refine W2.mono ?_
      rintro r w5 ⟨rfl, hA, hg⟩
      have hb5 : St E w p2 q2 N f w5 := ⟨(HSa4.out.write HG.out hA hg).below, (HSa4.out.write HG.out hA hg).glob, HSb4.out.arena.apart hg hne.1.1 hne.1.2, HSb4.out.hp, HSb4.out.hg⟩
      have HSa := Lib.hid (HSa4.out.write HG.out hA hg)
      have HSb := Lib.hid hb5
      have W1 := write_N HSb.out.glob HSb.out.arena c tx
      clear W2 hA hg hb5 HSa4 HSb4
      go_wp2_with fail
      refine W1.mono ?_
      rintro r w6 ⟨rfl, hA, hg⟩
      have hb6 : St E w p g N (writeF N (writeF N f a sx) c tx) w6 := ⟨(HSb.out.write HG.out hA hg).below, (HSb.out.write HG.out hA hg).glob, HSa.out.arena.apart hg hne.2.1 hne.2.2, HSa.out.hp, HSa.out.hg⟩
      have HSb6 := Lib.hid (HSb.out.write HG.out hA hg)
      have HSa6 := Lib.hid hb6
      have W2 := write_N HSb6.out.glob HSb6.out.arena a sx
      clear W1 hA hg hb6 HSa HSb
      go_wp2_with fail
      refine W2.mono ?_
      rintro r w7 ⟨rfl, hA, hg⟩
      have hb7 : St E w p g N (writeF N (writeF N f a sx) c tx) w7 := ⟨(HSb6.out.write HG.out hA hg).below, (HSb6.out.write HG.out hA hg).glob, HSa6.out.arena.apart hg hne.2.1 hne.2.2, HSa6.out.hp, HSa6.out.hg⟩
      have hSb := HSb6.out.write HG.out hA hg
      rw [hcom] at hb7
      generalize writeF N (writeF N f c tx) a sx = F at *
      have M1 := size_N hb7.arena
      have M2 := size_N hSb.arena
      have R1 := read_N hb7.glob hb7.arena 0 (N : Int)
      have R2 := read_N hSb.glob hSb.arena 0 (N : Int)
      have hin : inB N 0 (N : Int) = true := inB_iff.2 ⟨by omega, by omega, by omega, by omega⟩
      have hX : readN N F 0 (N : Int) = readS F 0 N := by unfold readN; rw [hin]; rfl
      rw [hX, chkN_code, hin, cond_true] at R1 R2
      have hsz : ((readS F 0 N).size : Int) = (N : Int) := by rw [readS_size]
      generalize readS F 0 N = X at *
      generalize (chkN N a sx.size).code = e1 at *
      generalize (chkN N c tx.size).code = e2 at *
      have HB := Lib.hid hb7.below
      clear W2 hA hg hb7 hSb HSa6 HSb6 hin hX hcom wa wc g1 g2 g3 g4 g5 g6 hsx htx
      go_wp2_with fail
      refine M1.mono ?_
      rintro r w' ⟨rfl, rfl⟩
      go_wp2_with fail
      refine R1.mono ?_
      rintro r w' ⟨rfl, rfl⟩
      go_wp2_with fail
      refine M2.mono ?_
      rintro r w' ⟨rfl, rfl⟩
      go_wp2_with fail
      refine R2.mono ?_
      rintro r w' ⟨rfl, rfl⟩
      go_wp2_with fail
      refine M1.mono ?_
      rintro r w' ⟨rfl, rfl⟩
      clear M1 M2 R1 R2
      go_wp2
      go_ret
      exact ⟨rfl, HB.out⟩
end Go.Proofs.YtjoghbpekpgkpaaDoor

namespace Go.Proofs.YtjoghbpekpgkpaaDoor.lawArenaApart
open Go.ChangeShapes Go.WideShapes Go.ChangeAt Go.RowKit
set_option maxRecDepth 100000 in
theorem told (H : Type) (enc : TypeId × Value → H) (W : World) (base : Nat) (args : Array Value) (ds gs : List (DataW H)) (before : List MemPlace)
    (hval : ∀ (j : Nat) t v, Tryd.f8.params[j]? = some t → args[j]? = some v → Value.okWide Tryd.prog W .any base t v)
    (hW : DataW.Whole enc Tryd.prog Tryd.f8.params.toList Rows.arenaApartSpec.vars false W args.toList ds gs before) (hL : laidMetH Tryd.prog laidL W) :
    Calls Tryd.prog 8 args W fun e W' => ∃ v, e = .returned v ∧ Rows.arenaApartSpec.post enc Tryd.prog Tryd.f8 false true false false W args v W' := by
  have hW' := hW
  obtain ⟨p, q, hA0, hV, rfl, hfz, hnd⟩ := hW
  have hA : DataW.TrodAll enc Tryd.prog W 0 (fun _ => true) true Tryd.f8.params.toList args.toList ds p := hA0
  rw [Tryd.params8] at hA hval
  obtain ⟨v0, vs0, d0, ds0, p0, q0, hargs, rfl, rfl, h0, r0⟩ := trodAll_cons hA
  obtain ⟨v1, vs1, d1, ds1, p1, q1, rfl, rfl, rfl, h1, r1⟩ := trodAll_cons r0
  obtain ⟨v2, vs2, d2, ds2, p2, q2, rfl, rfl, rfl, h2, r2⟩ := trodAll_cons r1
  obtain ⟨v3, vs3, d3, ds3, p3, q3, rfl, rfl, rfl, h3, r3⟩ := trodAll_cons r2
  obtain ⟨v4, vs4, d4, ds4, p4, q4, rfl, rfl, rfl, h4, r4⟩ := trodAll_cons r3
  obtain ⟨v5, vs5, d5, ds5, p5, q5, rfl, rfl, rfl, h5, r5⟩ := trodAll_cons r4
  obtain ⟨rfl, rfl, rfl⟩ := trodAll_nil r5
  obtain rfl : args = #[v0, v1, v2, v3, v4, v5] := by cases args; simp_all
  obtain ⟨rfl, rfl⟩ := trodVars_none hV
  have k0 := h0
  have k1 := h1
  have k2 := h2
  have k3 := h3
  have k4 := h4
  have k5 := h5
  obtain ⟨x0, rfl, rfl, rfl, wx0⟩ := open_int Tryd.underlying3 (hval 0 3 v0 rfl rfl) h0
  obtain ⟨l1, i1⟩ := ops_open (hval 1 34 v1 rfl rfl) h1
  obtain ⟨x2, rfl, rfl, rfl, wx2⟩ := open_int Tryd.underlying3 (hval 2 3 v2 rfl rfl) h2
  obtain ⟨x3, rfl⟩ := string_open (hval 3 9 v3 rfl rfl) h3
  obtain ⟨x4, rfl, rfl, rfl, wx4⟩ := open_int Tryd.underlying3 (hval 4 3 v4 rfl rfl) h4
  obtain ⟨x5, rfl⟩ := string_open (hval 5 9 v5 rfl rfl) h5
  clear hA0
  simp only [List.append_nil] at hW'
  obtain ⟨E, hGl⟩ := glob_of_laid hL
  refine (apart_law hGl x0 i1 x2 x3 x4 x5 wx0).mono fun e W' ⟨he, hb⟩ => ?_
  subst he
  have hlt := hW'.lt
  have harg0 := Below.trod laidOut (by kernel_rfl) (of_decide_eq_true (by kernel_rfl)) k0 hb (fun y hy => by first | (cases hy; done) | (simpa using hlt y (by simp [hy])))
  have harg1 := Below.trod laidOut (by kernel_rfl) (of_decide_eq_true (by kernel_rfl)) k1 hb (fun y hy => by first | (cases hy; done) | (simpa using hlt y (by simp [hy])))
  have harg2 := Below.trod laidOut (by kernel_rfl) (of_decide_eq_true (by kernel_rfl)) k2 hb (fun y hy => by first | (cases hy; done) | (simpa using hlt y (by simp [hy])))
  have harg3 := Below.trod laidOut (by kernel_rfl) (of_decide_eq_true (by kernel_rfl)) k3 hb (fun y hy => by first | (cases hy; done) | (simpa using hlt y (by simp [hy])))
  have harg4 := Below.trod laidOut (by kernel_rfl) (of_decide_eq_true (by kernel_rfl)) k4 hb (fun y hy => by first | (cases hy; done) | (simpa using hlt y (by simp [hy])))
  have harg5 := Below.trod laidOut (by kernel_rfl) (of_decide_eq_true (by kernel_rfl)) k5 hb (fun y hy => by first | (cases hy; done) | (simpa using hlt y (by simp [hy])))
  exact ⟨_, rfl, _, _, _, [], _, [], hW', trodAll_cons_mk (shut_bool Tryd.underlying4 _) trodAll_mk0, (trodAll_cons_mk harg0 (trodAll_cons_mk harg1 (trodAll_cons_mk harg2 (trodAll_cons_mk harg3 (trodAll_cons_mk harg4 (trodAll_cons_mk harg5 trodAll_mk0)))))), rfl, hb.frame _, fun h => by cases h⟩

set_option maxRecDepth 100000 in
theorem lifted (os : Os) (started : os.Started) (H : Type) (enc : TypeId × Value → H) :
    ReturnsInHanded {} Tryd.checked os 8 .any (fun w args => (Rows.arenaApartSpec.pre enc Tryd.prog Tryd.f8 [] false w args ∧ laidMetH Tryd.prog laidL w) ∧ sizedMet enc Tryd.prog Tryd.f8 (OpenSpec.ofChange Rows.arenaApartSpec) false w args)
      (Rows.arenaApartSpec.post enc Tryd.prog Tryd.f8 false true false false) := by
  refine returnsInHanded_of_change_and (C := Tryd.checked) (X := fun w _ => laidMetH Tryd.prog laidL w) (fun _ _ _ hh h => h.of_heap hh) own started (by kernel_rfl) Tryd.func8
    (ChangeSpec.witness_shaped (enc := enc) (C := Tryd.checked) (os := os) (X := fun w _ => laidMetH Tryd.prog laidL w) false (World.doorLaid Tryd.prog 123 os) #[.int .i64 0, .slice none 0 0, .int .i64 0, .string ⟨#[]⟩, .int .i64 0, .string ⟨#[]⟩] 8 rfl (World.shaped_of_RefB (by kernel_rfl) (by kernel_rfl)) (by kernel_rfl) (by kernel_rfl) (by kernel_rfl) (door_met os _)) ?_
  intro W base args ds gs before hval hW _ _ hL _
  exact told H enc W base args ds gs before hval hW hL

theorem said : Rows.ArenaApartSaid :=
  OpenClaim.holds_of_wide 8 Tryd.f8 rfl rfl rfl rfl rfl rfl rfl ⟨rfl, rfl, rfl, rfl, rfl⟩ rfl rfl rfl rfl rfl (by kernel_rfl) Tryd.func8 (by kernel_rfl)
    (of_decide_eq_true (by kernel_rfl)) (by unfold Func.isWrapper; first | (rw [if_pos (by decide +kernel)]; kernel_rfl) | (rw [if_neg (by decide +kernel)]; exact ⟨rfl, rfl⟩))
    (fun os started H enc _ => lifted os started H enc)

theorem plain (f : FuncId) (fn : Func) (hf : Tryd.pinned.checked.prog.funcNamed "selion/selionlaw03.ArenaApart" = some f) (hfn : Tryd.pinned.checked.prog.funcs[f]? = some fn) :
    true = Tryd.pinned.checked.prog.looks [] ∧ ∀ (j : Nat) t, fn.params[j]? = some t → Tryd.pinned.checked.prog.wantsStandIn t = false := by
  obtain rfl : f = 8 := Option.some.inj ((show Tryd.prog.funcNamed "selion/selionlaw03.ArenaApart" = some 8 by kernel_rfl).symm.trans hf) |>.symm
  obtain rfl : fn = Tryd.f8 := (Option.some.inj (Tryd.func8.symm.trans hfn)).symm
  refine ⟨by kernel_rfl, fun j t ht => ?_⟩
  have hm : t ∈ Tryd.f8.params := Array.mem_of_getElem? ht
  rw [Tryd.params8] at hm
  have hm' : t = 3 ∨ t = 34 ∨ t = 3 ∨ t = 9 ∨ t = 3 ∨ t = 9 := by simpa using hm
  rcases hm' with rfl | rfl | rfl | rfl | rfl | rfl
  · exact (show Tryd.prog.wantsStandIn 3 = false by kernel_rfl)
  · exact (show Tryd.prog.wantsStandIn 34 = false by kernel_rfl)
  · exact (show Tryd.prog.wantsStandIn 3 = false by kernel_rfl)
  · exact (show Tryd.prog.wantsStandIn 9 = false by kernel_rfl)
  · exact (show Tryd.prog.wantsStandIn 3 = false by kernel_rfl)
  · exact (show Tryd.prog.wantsStandIn 9 = false by kernel_rfl)

/-- THE CARD. -/
theorem card : Rows.ArenaApartCardSaid :=
  Claim7.holds_tied_plain_at .later [] _ _ _ _ said (fun _ h => by cases h) (by kernel_rfl) (fun _ h => by cases h) arenaApart_row_tie rfl ⟨rfl, rfl⟩ (by kernel_rfl) rfl plain (by kernel_rfl)
end Go.Proofs.YtjoghbpekpgkpaaDoor.lawArenaApart

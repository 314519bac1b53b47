/- Layer arena: the document's answer: Store, Load. -/
import Derived.Test.YtjoghbpekpgkpaaDoorNR2
namespace Go.Proofs.YtjoghbpekpgkpaaDoor
open Go Go.RowKit Go.Shelf
attribute [local go_sem ↓] Go.wp_at_zero Go.wp_at_succ

theorem store_nums {V k v b q : Nat} (hV : V < 4294967296) (hv : V / 256 ^ k = v) (hb : v % 256 = b) (hq : v / 256 = q) :
    (v : Int).tmod 256 = (b : Int) ∧ IntKind.u8.wrap (b : Int) = (b : Int) ∧ (v : Int) / 256 = (q : Int) ∧ IntKind.u32.wrap (q : Int) = (q : Int) ∧ IntKind.u32.wrap (b : Int) = (b : Int) ∧ V / 256 ^ (k + 1) = q := by
  have h1 : v ≤ V := by rw [← hv]; exact Nat.div_le_self _ _
  refine ⟨by rw [Int.tmod_eq_emod_of_nonneg (by omega)]; omega, by rw [IntKind.wrap_u8']; omega, by omega, by rw [IntKind.wrap_u32]; omega, by rw [IntKind.wrap_u32]; omega, ?_⟩
  rw [Nat.pow_succ, ← Nat.div_div_eq_div_mul, hv, hq]

set_option maxHeartbeats 2000000 in
set_option maxRecDepth 20000 in
theorem storeR {w : World} {p g n : Nat} {f : Nat → Nat} (hA : RefV w p g n f) (a : Int) {V : Nat} (hV : V < 4294967296) :
    Calls Tryd.prog 32 #[.pointer (some ⟨p, 0, none⟩), .int .i64 a, .int .u32 (V : Int)] w fun r w' => r = .returned (.int .i64 (errW n a).code) ∧ RefV w' p g n (storeF n f a V) ∧ w.grownBy w' (some g) := by
  have C := within_N hA a 4
  unfold storeF
  by_cases hm : a.tmod 4 = 0
  · have hm4 : mul4 a = true := decide_eq_true hm
    cases h : inB n a 4 with
    | false =>
      have hok : okW n a = false := by unfold okW; rw [h]; rfl
      rw [h] at C
      rw [hok, errW_adr hok, cond_false]
      have HA := Lib.hid hA
      clear hA h hok hm4
      go_enter Tryd.func32, Tryd.ntmps32
      go_wp2_with fail
      refine C.mono ?_
      rintro r w' ⟨rfl, rfl⟩
      go_wp2
      go_ret
      exact ⟨rfl, HA.out, grown_refl _ _⟩
    | true =>
      have hok : okW n a = true := by unfold okW; rw [h, hm4]; rfl
      rw [h] at C
      rw [hok, errW_ok hok, cond_true]
      obtain ⟨h1, h2, h3, h4⟩ := inB_iff.1 h
      obtain ⟨A, rfl⟩ : ∃ A : Nat, a = A := ⟨a.toNat, by omega⟩
      have hAK : A + 4 ≤ n := by omega
      have hmx := hA.arr.mx
      rw [Int.toNat_natCast]
      have HA := Lib.hid (hA.congr (storeP_zero f A V))
      clear hA h h1 h2 h3 h4 hok hm4
      go_enter Tryd.func32, Tryd.ntmps32
      go_wp2_with fail
      refine C.mono ?_
      rintro r w' ⟨rfl, rfl⟩
      clear C
      go_wp2
      go_loopw [2, 7] (fun o q W => ∃ k v : Nat, k ≤ 4 ∧ q = .int .i64 (k : Int) ∧ V / 256 ^ k = v ∧ o = .int .u32 (v : Int) ∧ RefV W p g n (storeP f A V k) ∧ w.grownBy W (some g)) (fun _ q _ => 4 - (intOf q).toNat)
      case atStart => exact ⟨0, V, by decide, rfl, by simp, rfl, HA.out, grown_refl _ _⟩
      case round =>
        obtain ⟨k, v, hk, rfl, hv, rfl, hR, hg⟩ := hrel
        by_cases hlt : k < 4
        · have c0 := hR.cell
          have c1 := hR.arr.cell (A + k) (by omega)
          have c2 := hR.arr.free (A + k)
          obtain ⟨b, hb⟩ : ∃ b, v % 256 = b := ⟨_, rfl⟩
          obtain ⟨q, hq⟩ : ∃ q, v / 256 = q := ⟨_, rfl⟩
          obtain ⟨n1, n2, n3, n4, n5, n6⟩ := store_nums hV hv hb hq
          have hb8 : b < 256 := by omega
          have hfin := hR.put (grown_set wr g (A + k) (.int .u8 (b : Int))) ((hR.arr.set (A + k) b hb8).congr (f' := storeP f A V (k + 1)) fun j => by
            have := storeP_succ f A V k j
            rw [hv, hb] at this
            exact this)
          have hgf := grown_trans hg (grown_set wr g (A + k) (.int .u8 (b : Int)))
          have i3 : (0 : Int) ≤ (A : Int) + (k : Int) := by omega
          have i4 : (A : Int) + (k : Int) < (n : Int) := by omega
          have i5 : ((A : Int) + (k : Int)).toNat = A + k := by omega
          have w1 : IntKind.i64.wrap ((A : Int) + (k : Int)) = (A : Int) + (k : Int) := IntWalk.i64_in _ (by omega)
          have w2 : IntKind.i64.wrap ((k : Int) + 1) = (k : Int) + 1 := IntWalk.i64_in _ (by omega)
          generalize storeP f A V k (A + k) = y at *
          have HF := Lib.hid hfin
          have HGF := Lib.hid hgf
          have HN6 := Lib.hid n6
          clear hfin hgf hR hg hb hq hv n6 hb8
          go_wp2
          go_round
          case rel => exact ⟨k + 1, q, by omega, by go_num, HN6.out, by first | rfl | go_num, HF.out, HGF.out⟩
          case measure => simp [intOf]; omega
        · obtain rfl : k = 4 := by omega
          have HR := Lib.hid hR
          rw [show ((4 : Nat) : Int) = 4 from rfl]
          clear hR hlt hk hv
          go_wp2
          go_ret
          exact ⟨rfl, HR.out, hg⟩
  · have hok : okW n a = false := by unfold okW mul4; rw [decide_eq_false hm, Bool.and_false]
    rw [hok, errW_adr hok, cond_false]
    have HA := Lib.hid hA
    clear hA hok C
    go_enter Tryd.func32, Tryd.ntmps32
    go_wp2
    go_ret
    exact ⟨rfl, HA.out, grown_refl _ _⟩

theorem load_nums {x0 x1 x2 x3 n2 n3 n4 : Nat} (h0 : x0 < 256) (h1 : x1 < 256) (h2 : x2 < 256) (h3 : x3 < 256) (e2 : 256 * x3 + x2 = n2) (e3 : 256 * n2 + x1 = n3) (e4 : 256 * n3 + x0 = n4) :
    IntKind.u32.wrap (x0 : Int) = (x0 : Int) ∧ IntKind.u32.wrap (x1 : Int) = (x1 : Int) ∧ IntKind.u32.wrap (x2 : Int) = (x2 : Int) ∧ IntKind.u32.wrap (x3 : Int) = (x3 : Int) ∧
    IntKind.u32.wrap (256 * (x3 : Int)) = 256 * (x3 : Int) ∧ IntKind.u32.wrap (256 * (x3 : Int) + (x2 : Int)) = (n2 : Int) ∧ IntKind.u32.wrap (256 * (n2 : Int)) = 256 * (n2 : Int) ∧ IntKind.u32.wrap (256 * (n2 : Int) + (x1 : Int)) = (n3 : Int) ∧
    IntKind.u32.wrap (256 * (n3 : Int)) = 256 * (n3 : Int) ∧ IntKind.u32.wrap (256 * (n3 : Int) + (x0 : Int)) = (n4 : Int) := by
  refine ⟨?_, ?_, ?_, ?_, ?_, ?_, ?_, ?_, ?_, ?_⟩ <;> rw [IntKind.wrap_u32] <;> omega
theorem word_sum (f : Nat → Nat) (A : Nat) : 256 * (256 * (256 * f (A + 3) + f (A + 2)) + f (A + 1)) + f (A + 0) = wordF f A := by
  unfold wordF
  simp only [worthP, Nat.reducePow, Nat.zero_add, Nat.mul_one]
  omega

set_option maxHeartbeats 2000000 in
set_option maxRecDepth 20000 in
theorem loadR {w : World} {p g n : Nat} {f : Nat → Nat} (hA : RefV w p g n f) (a : Int) :
    Calls Tryd.prog 31 #[.pointer (some ⟨p, 0, none⟩), .int .i64 a] w fun r w' => r = .returned (.tuple #[.int .u32 ((loadN n f a : Nat) : Int), .int .i64 (errW n a).code]) ∧ w = w' := by
  have C := within_N hA a 4
  unfold loadN
  by_cases hm : a.tmod 4 = 0
  · have hm4 : mul4 a = true := decide_eq_true hm
    cases h : inB n a 4 with
    | false =>
      have hok : okW n a = false := by unfold okW; rw [h]; rfl
      rw [h] at C
      rw [hok, errW_adr hok, cond_false]
      clear hA h hok hm4
      go_enter Tryd.func31, Tryd.ntmps31
      go_wp2_with fail
      refine C.mono ?_
      rintro r w' ⟨rfl, rfl⟩
      go_wp2
      exact bodyPost_ret (results_tmp2 rfl _ _ _) rfl ⟨rfl, rfl⟩
    | true =>
      have hok : okW n a = true := by unfold okW; rw [h, hm4]; rfl
      rw [h] at C
      rw [hok, errW_ok hok, cond_true]
      obtain ⟨h1, h2, h3, h4⟩ := inB_iff.1 h
      obtain ⟨A, rfl⟩ : ∃ A : Nat, a = A := ⟨a.toNat, by omega⟩
      have hAK : A + 4 ≤ n := by omega
      have hmx := hA.arr.mx
      rw [Int.toNat_natCast, ← word_sum]
      have c0 := hA.cell
      have k0 := hA.arr.cell (A + 0) (by omega)
      have k1 := hA.arr.cell (A + 1) (by omega)
      have k2 := hA.arr.cell (A + 2) (by omega)
      have k3 := hA.arr.cell (A + 3) (by omega)
      have b0 := hA.arr.by8 (A + 0)
      have b1 := hA.arr.by8 (A + 1)
      have b2 := hA.arr.by8 (A + 2)
      have b3 := hA.arr.by8 (A + 3)
      rw [Nat.add_zero] at k0 b0 ⊢
      generalize f A = x0 at *
      generalize f (A + 1) = x1 at *
      generalize f (A + 2) = x2 at *
      generalize f (A + 3) = x3 at *
      generalize e2 : 256 * x3 + x2 = n2 at *
      generalize e3 : 256 * n2 + x1 = n3 at *
      generalize e4 : 256 * n3 + x0 = n4 at *
      obtain ⟨u0, u1, u2, u3, u4, u5, u6, u7, u8, u9⟩ := load_nums b0 b1 b2 b3 e2 e3 e4
      have v1 : IntKind.i64.wrap ((A : Int) + 1) = (A : Int) + 1 := IntWalk.i64_in _ (by omega)
      have v2 : IntKind.i64.wrap ((A : Int) + 2) = (A : Int) + 2 := IntWalk.i64_in _ (by omega)
      have v3 : IntKind.i64.wrap ((A : Int) + 3) = (A : Int) + 3 := IntWalk.i64_in _ (by omega)
      have v0 : IntKind.i64.wrap (A : Int) = (A : Int) := IntWalk.i64_in _ (by omega)
      have i0 : (A : Int) < (n : Int) := by omega
      have i1 : (A : Int) + 1 < (n : Int) := by omega
      have i2 : (A : Int) + 2 < (n : Int) := by omega
      have i3 : (A : Int) + 3 < (n : Int) := by omega
      have j1 : (0 : Int) ≤ (A : Int) + 1 := by omega
      have j2 : (0 : Int) ≤ (A : Int) + 2 := by omega
      have j3 : (0 : Int) ≤ (A : Int) + 3 := by omega
      have t1 : ((A : Int) + 1).toNat = A + 1 := by omega
      have t2 : ((A : Int) + 2).toNat = A + 2 := by omega
      have t3 : ((A : Int) + 3).toNat = A + 3 := by omega
      clear hA h h1 h2 h3 h4 hok hm4 b0 b1 b2 b3 e2 e3 e4
      go_enter Tryd.func31, Tryd.ntmps31
      go_wp2_with fail
      refine C.mono ?_
      rintro r w' ⟨rfl, rfl⟩
      clear C
      go_wp2
      refine wp_loop_rounds 5 ?_
      rw [rounds_succ]
      go_wp2
      rw [rounds_succ]
      go_wp2
      rw [rounds_succ]
      go_wp2
      rw [rounds_succ]
      go_wp2
      rw [rounds_succ]
      go_wp2
      exact bodyPost_ret (results_tmp2 rfl _ _ _) rfl ⟨rfl, rfl⟩
  · have hok : okW n a = false := by unfold okW mul4; rw [decide_eq_false hm, Bool.and_false]
    rw [hok, errW_adr hok, cond_false]
    clear hA hok C
    go_enter Tryd.func31, Tryd.ntmps31
    go_wp2
    exact bodyPost_ret (results_tmp2 rfl _ _ _) rfl ⟨rfl, rfl⟩
end Go.Proofs.YtjoghbpekpgkpaaDoor

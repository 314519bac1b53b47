/- Layer arena: the document's answer: Byte, Put, Zero, Count, Store, Load. -/
import Derived.Test.YtjoghbpekpgkpaaDoorNR1
namespace Go.Proofs.YtjoghbpekpgkpaaDoor
open Go Go.RowKit Go.Shelf
attribute [local go_sem ↓] Go.wp_at_zero Go.wp_at_succ

set_option maxHeartbeats 1000000 in
theorem byteR {w : World} {p g n : Nat} {f : Nat → Nat} (hA : RefV w p g n f) (a : Int) :
    Calls Tryd.prog 33 #[.pointer (some ⟨p, 0, none⟩), .int .i64 a] w fun r w' => r = .returned (.tuple #[.int .i64 ((byteA n f a : Nat) : Int), .int .i64 (chkN n a 1).code]) ∧ w = w' := by
  have C := within_N hA a 1
  have c0 := hA.cell
  unfold byteA
  cases h : inB n a 1 with
  | true =>
    have e : chkN n a 1 = .ok := by unfold chkN; rw [h]; rfl
    rw [h] at C
    rw [e]
    obtain ⟨h1, h2, h3, h4⟩ := inB_iff.1 h
    obtain ⟨A, rfl⟩ : ∃ A : Nat, a = A := ⟨a.toNat, by omega⟩
    have c1 := hA.arr.cell A (by omega)
    have hlt : (A : Int) < n := by omega
    have h8 := hA.arr.by8 A
    have wv : IntKind.i64.wrap ((f A : Nat) : Int) = (f A : Nat) := IntWalk.i64_in _ (by omega)
    rw [Int.toNat_natCast]
    generalize f A = x at *
    clear hA h h1 h2 h3 h4 h8 e
    go_enter Tryd.func33, Tryd.ntmps33
    go_wp2_with fail
    refine C.mono ?_
    rintro r w' ⟨rfl, rfl⟩
    go_wp2
    exact bodyPost_ret (results_tmp2 rfl _ _ _) rfl ⟨rfl, rfl⟩
  | false =>
    have e : chkN n a 1 = .adr := by unfold chkN; rw [h]; rfl
    rw [h] at C
    rw [e]
    clear hA h e c0
    go_enter Tryd.func33, Tryd.ntmps33
    go_wp2_with fail
    refine C.mono ?_
    rintro r w' ⟨rfl, rfl⟩
    go_wp2
    exact bodyPost_ret (results_tmp2 rfl _ _ _) rfl ⟨rfl, rfl⟩

set_option maxHeartbeats 2000000 in
theorem putR {w : World} {p g n : Nat} {f : Nat → Nat} (hA : RefV w p g n f) (a v : Int) :
    Calls Tryd.prog 34 #[.pointer (some ⟨p, 0, none⟩), .int .i64 a, .int .i64 v] w fun r w' => r = .returned (.int .i64 (putE n a v)) ∧ RefV w' p g n (putF n f a v) ∧ w.grownBy w' (some g) := by
  have C := within_N hA a 1
  have c0 := hA.cell
  unfold putE putF okPut
  cases h : inB n a 1 with
  | true =>
    rw [h] at C
    obtain ⟨h1, h2, h3, h4⟩ := inB_iff.1 h
    obtain ⟨A, rfl⟩ : ∃ A : Nat, a = A := ⟨a.toNat, by omega⟩
    rw [Int.toNat_natCast]
    by_cases hv : 0 ≤ v ∧ v < 256
    · obtain ⟨V, rfl⟩ : ∃ V : Nat, v = V := ⟨v.toNat, by omega⟩
      have gv0 : decide (0 ≤ (V : Int)) = true := decide_eq_true hv.1
      have gv1 : decide ((V : Int) < 256) = true := decide_eq_true hv.2
      rw [gv0, gv1]
      rw [Int.toNat_natCast]
      have g1 : decide ((V : Int) < 0) = false := dec_false (by omega)
      have g2 : decide ((255 : Int) < (V : Int)) = false := dec_false (by omega)
      have c1 := hA.arr.cell A (by omega)
      have c2 := hA.arr.free A
      have hlt : (A : Int) < n := by omega
      have wv : IntKind.u8.wrap ((V : Nat) : Int) = (V : Int) := by rw [IntKind.wrap_u8']; omega
      have hF := Lib.hid (hA.put (grown_set w g A (.int .u8 (V : Int))) (hA.arr.set A V (by omega)))
      clear hA h h1 h2 h3 h4 hv gv0 gv1
      go_enter Tryd.func34, Tryd.ntmps34
      go_wp2_with fail
      refine C.mono ?_
      rintro r w' ⟨rfl, rfl⟩
      go_wp2
      go_ret
      exact ⟨rfl, hF.out, grown_set _ _ _ _⟩
    · have e2 : (decide (0 ≤ v) && decide (v < 256)) = false := by rw [Bool.and_eq_false_iff, decide_eq_false_iff_not, decide_eq_false_iff_not]; omega
      rw [e2]
      have HA := Lib.hid hA
      by_cases hv0 : v < 0
      · have g1 : decide (v < 0) = true := decide_eq_true hv0
        clear hA h h1 h2 h3 h4 hv e2 hv0
        go_enter Tryd.func34, Tryd.ntmps34
        go_wp2_with fail
        refine C.mono ?_
        rintro r w' ⟨rfl, rfl⟩
        go_wp2
        go_ret
        exact ⟨rfl, HA.out, grown_refl _ _⟩
      · have g1 : decide (v < 0) = false := dec_false hv0
        have g2 : decide ((255 : Int) < v) = true := decide_eq_true (by omega)
        clear hA h h1 h2 h3 h4 hv e2 hv0
        go_enter Tryd.func34, Tryd.ntmps34
        go_wp2_with fail
        refine C.mono ?_
        rintro r w' ⟨rfl, rfl⟩
        go_wp2
        go_ret
        exact ⟨rfl, HA.out, grown_refl _ _⟩
  | false =>
    rw [h] at C
    have HA := Lib.hid hA
    clear h c0 hA
    go_enter Tryd.func34, Tryd.ntmps34
    go_wp2_with fail
    refine C.mono ?_
    rintro r w' ⟨rfl, rfl⟩
    go_wp2
    go_ret
    exact ⟨rfl, HA.out, grown_refl _ _⟩

theorem put_zeros {f : Nat → Nat} {A k : Nat} (j : Nat) : (if j = A + k then 0 else put f A (List.replicate k 0) j) = put f A (List.replicate (k + 1) 0) j := by
  have h : ∀ m i, i < m → (List.replicate m 0).getD i 0 = 0 := fun m i hi => by rw [List.getD_eq_getElem?_getD]; simp [hi]
  unfold put
  rw [List.length_replicate, List.length_replicate]
  by_cases e : j = A + k
  · rw [if_pos e, if_pos (by omega), h _ _ (by omega)]
  · rw [if_neg e]
    by_cases h2 : A ≤ j ∧ j < A + k
    · rw [if_pos h2, if_pos (by omega), h _ _ (by omega), h _ _ (by omega)]
    · rw [if_neg h2, if_neg (by omega)]

set_option maxHeartbeats 2000000 in
theorem zeroR {w : World} {p g n : Nat} {f : Nat → Nat} (hA : RefV w p g n f) (a k : Int) :
    Calls Tryd.prog 37 #[.pointer (some ⟨p, 0, none⟩), .int .i64 a, .int .i64 k] w fun r w' => r = .returned (.int .i64 (chkN n a k).code) ∧ RefV w' p g n (zeroF n f a k) ∧ w.grownBy w' (some g) := by
  have C := within_N hA a k
  unfold zeroF
  cases h : inB n a k with
  | false =>
    have e : chkN n a k = .adr := by unfold chkN; rw [h]; rfl
    rw [h] at C
    rw [e]
    have HA := Lib.hid hA
    clear hA h e
    go_enter Tryd.func37, Tryd.ntmps37
    go_wp2_with fail
    refine C.mono ?_
    rintro r w' ⟨rfl, rfl⟩
    go_wp2
    go_ret
    exact ⟨rfl, HA.out, grown_refl _ _⟩
  | true =>
    have e : chkN n a k = .ok := by unfold chkN; rw [h]; rfl
    rw [h] at C
    rw [e]
    obtain ⟨h1, h2, h3, h4⟩ := inB_iff.1 h
    obtain ⟨A, rfl⟩ : ∃ A : Nat, a = A := ⟨a.toNat, by omega⟩
    obtain ⟨K, rfl⟩ : ∃ K : Nat, k = K := ⟨k.toNat, by omega⟩
    have hAK : A + K ≤ n := by omega
    have hmx := hA.arr.mx
    rw [Int.toNat_natCast, Int.toNat_natCast]
    have HA := Lib.hid (hA.congr (f' := put f A (List.replicate 0 0)) fun j => by rw [show List.replicate 0 0 = ([] : List Nat) from rfl, put_none])
    clear hA h h1 h2 h3 h4 e
    go_enter Tryd.func37, Tryd.ntmps37
    go_wp2_with fail
    refine C.mono ?_
    rintro r w' ⟨rfl, rfl⟩
    clear C
    go_wp2
    go_loopw [7] (fun q W => ∃ m : Nat, m ≤ K ∧ q = .int .i64 (m : Int) ∧ RefV W p g n (put f A (List.replicate m 0)) ∧ w.grownBy W (some g)) (fun q _ => K - (intOf q).toNat)
    case atStart => exact ⟨0, Nat.zero_le _, rfl, HA.out, grown_refl _ _⟩
    case round =>
      obtain ⟨m, hm, rfl, hR, hg⟩ := hrel
      by_cases hlt : m < K
      · have c0 := hR.cell
        have c1 := hR.arr.cell (A + m) (by omega)
        have c2 := hR.arr.free (A + m)
        have hfin := hR.put (grown_set wr g (A + m) (.int .u8 ((0 : Nat) : Int))) ((hR.arr.set (A + m) 0 (by decide)).congr fun j => put_zeros j)
        have hgf := grown_trans hg (grown_set wr g (A + m) (.int .u8 ((0 : Nat) : Int)))
        have i3 : (0 : Int) ≤ (A : Int) + (m : Int) := by omega
        have i4 : (A : Int) + (m : Int) < (n : Int) := by omega
        have i5 : ((A : Int) + (m : Int)).toNat = A + m := by omega
        have w1 : IntKind.i64.wrap ((A : Int) + (m : Int)) = (A : Int) + (m : Int) := IntWalk.i64_in _ (by omega)
        have w2 : IntKind.i64.wrap ((m : Int) + 1) = (m : Int) + 1 := IntWalk.i64_in _ (by omega)
        generalize put f A (List.replicate m 0) (A + m) = y at *
        have HF := Lib.hid hfin
        have HGF := Lib.hid hgf
        clear hfin hgf hR hg
        go_wp2
        go_round
        case rel => exact ⟨m + 1, by omega, by go_num, HF.out, HGF.out⟩
        case measure => simp [intOf]; omega
      · obtain rfl : m = K := by omega
        have HR := Lib.hid hR
        clear hR hlt hm
        go_wp2
        go_ret
        exact ⟨rfl, HR.out, hg⟩

set_option maxHeartbeats 2000000 in
theorem countR {w : World} {p g n : Nat} {f : Nat → Nat} (hA : RefV w p g n f) :
    Calls Tryd.prog 22 #[.pointer (some ⟨p, 0, none⟩)] w fun r w' => r = .returned (.int .i64 ((cntP f n : Nat) : Int)) ∧ w = w' := by
  have hmx := hA.arr.mx
  have c0 := hA.cell
  have HA := Lib.hid hA
  clear hA
  go_enter Tryd.func22, Tryd.ntmps22
  go_wp2
  go_loopw [3, 4] (fun o q W => ∃ m : Nat, m ≤ n ∧ q = .int .i64 (m : Int) ∧ o = .int .i64 ((cntP f m : Nat) : Int) ∧ W = w) (fun _ q _ => n - (intOf q).toNat)
  case atStart => exact ⟨0, Nat.zero_le _, rfl, rfl, rfl⟩
  case round =>
    obtain ⟨m, hm, rfl, rfl, rfl⟩ := hrel
    by_cases hlt : m < n
    · have c1 := HA.out.arr.cell m hlt
      have hcs : cntP f (m + 1) = cntP f m + min (f m) 1 := rfl
      have hle := cntP_le f m
      have HCS := Lib.hid hcs
      have i3 : IntKind.i64.wrap ((m : Int) + 1) = (m : Int) + 1 := IntWalk.i64_in _ (by omega)
      have i4 : IntKind.i64.wrap (((cntP f m : Nat) : Int) + 1) = ((cntP f m : Nat) : Int) + 1 := IntWalk.i64_in _ (by omega)
      generalize cntP f m = c at *
      generalize f m = x0 at *
      clear hcs hle
      by_cases hx : x0 = 0
      · subst hx
        go_wp2
        go_round
        case rel => exact ⟨m + 1, by omega, by go_num, by rw [HCS.out]; rfl, trivial⟩
        case measure => simp [intOf]; omega
      · have hx2 : ¬ ((x0 : Int) = 0) := by omega
        have HM : Hid (min x0 1 = 1) := Lib.hid (by omega)
        clear hx
        go_wp2
        go_round
        case rel => exact ⟨m + 1, by omega, by go_num, by rw [HCS.out, HM.out]; go_num, trivial⟩
        case measure => simp [intOf]; omega
    · obtain rfl : m = n := by omega
      clear hlt hm
      go_wp2
      go_ret
      exact ⟨rfl, rfl⟩
end Go.Proofs.YtjoghbpekpgkpaaDoor

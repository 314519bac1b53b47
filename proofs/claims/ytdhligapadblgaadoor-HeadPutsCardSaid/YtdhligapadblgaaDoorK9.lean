/- Layer head: the document's answer: even. -/
import Derived.Test.YtdhligapadblgaaDoorK8
namespace Go.Proofs.YtdhligapadblgaaDoor
open Go.RowKit
attribute [local go_sem ↓] Go.wp_at_zero Go.wp_at_succ

def evenP (L : List Nat) (j : Nat) : Nat := ((List.range j).map fun i => digits L (2 ^ i) % 2 * 2 ^ i).sum
theorem evenP_succ (L : List Nat) (j : Nat) : evenP L (j + 1) = evenP L j + digits L (2 ^ j) % 2 * 2 ^ j := by
  unfold evenP
  rw [List.range_succ, List.map_append, List.sum_append]
  simp
theorem evenP_lt (L : List Nat) (j : Nat) : evenP L j < 2 ^ j := by
  induction j with
  | zero => simp [evenP]
  | succ j ih =>
    rw [evenP_succ, Nat.pow_succ]
    have : digits L (2 ^ j) % 2 ≤ 1 := by omega
    have h2 : digits L (2 ^ j) % 2 * 2 ^ j ≤ 1 * 2 ^ j := Nat.mul_le_mul_right _ this
    omega
theorem digits_take (L : List Nat) (d k : Nat) (hk : k < L.length) : digits (L.take (k + 1)) d = digits (L.take k) d + L.getD k 0 / d % 2 := by
  unfold digits
  rw [List.take_add_one, List.getElem?_eq_getElem hk, List.map_append, List.sum_append]
  simp [List.getD, hk]
theorem digits_le (L : List Nat) (d : Nat) : digits L d ≤ L.length := by
  unfold digits
  induction L with
  | nil => simp
  | cons a L ih => simp; omega

theorem even_step (x D n : Nat) (hx : x < 256) (hn : n ≤ 100) :
    (x : Int) / (D : Int) = ((x / D : Nat) : Int) ∧ wrap64 ((x / D : Nat) : Int) = ((x / D : Nat) : Int) ∧ IntKind.i64.wrap ((x / D : Nat) : Int) = ((x / D : Nat) : Int) ∧
    ((x / D : Nat) : Int).tmod 2 = ((x / D % 2 : Nat) : Int) ∧ IntKind.i64.wrap ((n : Int) + ((x / D % 2 : Nat) : Int)) = ((n + x / D % 2 : Nat) : Int) := by
  have hyl : x / D ≤ x := Nat.div_le_self _ _
  refine ⟨by push_cast; rfl, ?_⟩
  generalize x / D = y at *
  refine ⟨(byte_small y (by omega)).1, (byte_small y (by omega)).2, ?_, ?_⟩
  · rw [Int.tmod_eq_emod_of_nonneg (Int.natCast_nonneg _)]; omega
  · rw [show (n : Int) + ((y % 2 : Nat) : Int) = ((n + y % 2 : Nat) : Int) by push_cast; rfl]
    exact IntWalk.i64_in _ (by omega)
theorem even_close (n D o : Nat) (hD : D ≤ 128) (ho : o < D) : (n : Int).tmod 2 = ((n % 2 : Nat) : Int) ∧ IntKind.i64.wrap (((n % 2 : Nat) : Int) * (D : Int)) = ((n % 2 * D : Nat) : Int) ∧
    IntKind.i64.wrap ((o : Int) + ((n % 2 * D : Nat) : Int)) = ((o + n % 2 * D : Nat) : Int) ∧ IntKind.i64.wrap (2 * (D : Int)) = ((2 * D : Nat) : Int) := by
  refine ⟨by rw [Int.tmod_eq_emod_of_nonneg (Int.natCast_nonneg _)]; omega, ?_⟩
  have hb : n % 2 = 0 ∨ n % 2 = 1 := by omega
  have e2 : IntKind.i64.wrap (2 * (D : Int)) = ((2 * D : Nat) : Int) := by rw [IntWalk.i64_in _ (by omega)]; push_cast; rfl
  rcases hb with h | h <;> rw [h]
  · refine ⟨by rw [IntWalk.i64_in _ (by omega)]; push_cast; rfl, by rw [IntWalk.i64_in _ (by omega)]; push_cast; rfl, e2⟩
  · refine ⟨by rw [IntWalk.i64_in _ (by omega)]; push_cast; rfl, by rw [IntWalk.i64_in _ (by omega)]; push_cast; rfl, e2⟩
theorem idx_step (k n : Nat) (h : k < n) (hn : n ≤ 100) : (0 : Int) ≤ (k : Int) ∧ (k : Int) < (n : Int) ∧ IntKind.i64.wrap ((k : Int) + 1) = (k : Int) + 1 := ⟨by omega, by omega, IntWalk.i64_in _ (by omega)⟩

set_option maxHeartbeats 4000000 in
set_option maxRecDepth 20000 in
theorem evenRef {s : ByteArray} {L : List Nat} (hl : s.size = L.length) (hn : L.length ≤ 100) (h256 : ∀ x ∈ L, x < 256) (hb : ∀ k (h : k < s.size), (s[k]'h).toNat = L.getD k 0) (w : World) :
    Calls Tryd.prog 32 #[.string s] w fun r w' => r = .returned (.int .u8 ((evenN L : Nat) : Int)) ∧ w' = w := by
  have HB := Lib.hid hb
  have H256 := Lib.hid h256
  have HL := Lib.hid hl
  clear hb h256 hl
  go_enter Tryd.func32, Tryd.ntmps32
  go_wp2
  go_loopw [3, 4] (fun o d W => ∃ j : Nat, j ≤ 8 ∧ d = .int .i64 ((2 ^ j : Nat) : Int) ∧ o = .int .i64 ((evenP L j : Nat) : Int) ∧ W = w) (fun _ d _ => 512 - (intOf d).toNat)
  case atStart => exact ⟨0, by decide, rfl, rfl, rfl⟩
  case round =>
    obtain ⟨j, hj, rfl, rfl, rfl⟩ := hrel
    by_cases hj8 : j < 8
    · have hp1 : 2 ^ j ≤ 128 := Nat.le_trans (Nat.pow_le_pow_right (by decide) (show j ≤ 7 by omega)) (by decide)
      have hp0 : 0 < 2 ^ j := Nat.two_pow_pos j
      have es := evenP_succ L j
      have el := evenP_lt L j
      have ep : 2 ^ (j + 1) = 2 * 2 ^ j := by rw [Nat.pow_succ, Nat.mul_comm]
      have ED : digits L (2 ^ j) ≤ L.length := digits_le L _
      have hdg := digits_take L (2 ^ j)
      have hdl : ∀ k, digits (L.take k) (2 ^ j) ≤ 100 := fun k => Nat.le_trans (digits_le _ _) (by simp; omega)
      generalize hD : 2 ^ j = D at *
      have HD := Lib.hid hD
      have HD0 := Lib.hid (show ¬ ((D : Int) = 0) by omega)
      have HES := Lib.hid es
      have HEP := Lib.hid ep
      have HDG := Lib.hid hdg
      have HDL := Lib.hid hdl
      have HED := Lib.hid ED
      generalize evenP L j = o at *
      clear hD es ep hdg hdl ED
      have g1 : decide ((D : Int) < 256) = true := decide_eq_true (by omega)
      have g1' : decide (D < 256) = true := decide_eq_true (by omega)
      go_wp2
      go_loopw [5, 6] (fun n i W => ∃ k : Nat, k ≤ L.length ∧ i = .int .i64 (k : Int) ∧ n = .int .i64 ((digits (L.take k) D : Nat) : Int) ∧ W = wr) (fun _ i _ => L.length - (intOf i).toNat)
      case atStart => exact ⟨0, Nat.zero_le _, rfl, rfl, rfl⟩
      case round =>
        obtain ⟨k, hk, rfl, rfl, rfl⟩ := hrel
        have hs := HL.out
        by_cases hlt : k < L.length
        · have hx : L.getD k 0 < 256 := H256.out _ (by rw [List.getD_eq_getElem?_getD, List.getElem?_eq_getElem hlt]; exact List.getElem_mem hlt)
          have hbk : ∀ h : k < s.size, (s[k]'h).toNat = L.getD k 0 := fun h => HB.out k h
          have hdg := HDG.out k hlt
          have hdl := HDL.out k
          generalize L.getD k 0 = x at *
          obtain ⟨s1, s2, s3, s4, s5⟩ := even_step x D (digits (L.take k) D) hx hdl
          obtain ⟨i1, i2, i4⟩ := idx_step k s.size (by rw [hs]; exact hlt) (by rw [hs]; exact hn)
          have v1 := byte_small x hx
          obtain ⟨v1a, v1b⟩ := v1
          have HDG1 := Lib.hid hdg
          clear hdg hdl hs
          generalize digits (L.take k) D = n at *
          generalize x / D = y at *
          generalize y % 2 = b at *
          have i5 : ¬ ((D : Int) = 0) := HD0.out
          clear hx
          go_wp2
          first | go_region | skip
          go_round
          case rel => exact ⟨k + 1, by omega, by go_num, by rw [HDG1.out]; go_num, trivial⟩
          case measure => simp [intOf]; omega
        · obtain rfl : k = L.length := by omega
          have HT := Lib.hid (show digits (L.take L.length) D = digits L D by rw [List.take_length])
          rw [HT.out]
          obtain ⟨c1, c2, c3, c4⟩ := even_close (digits L D) D o hp1 el
          have hge : decide ((L.length : Int) < (s.size : Int)) = false := decide_eq_false (by rw [hs]; omega)
          have hge2 : decide (L.length < s.size) = false := decide_eq_false (by rw [hs]; omega)
          have HES1 := Lib.hid HES.out
          generalize digits L D = n at *
          generalize n % 2 * D = m at *
          generalize n % 2 = b at *
          clear hs HT
          go_wp2
          first | go_region | skip
          go_round
          case rel => exact ⟨j + 1, by omega, by rw [HEP.out]; go_num, by rw [HES1.out]; go_num, trivial⟩
          case measure => simp [intOf]; omega
    · obtain rfl : j = 8 := by omega
      have e8 : evenP L 8 = evenN L := rfl
      rw [e8]
      have hlt : evenN L < 256 := by have := evenP_lt L 8; rw [e8] at this; exact this
      generalize hz : evenN L = z at *
      have HZ := Lib.hid hz
      clear hz
      have uw : IntKind.u8.wrap (z : Int) = (z : Int) := by rw [IntKind.wrap_u8']; omega
      go_wp2
      go_ret
      exact ⟨by rw [HZ.out]; rfl, rfl⟩
end Go.Proofs.YtdhligapadblgaaDoor

/- Layer bits: a place turned in an array. -/
import Derived.Test.YtlncilcoohmlkaaDoorU4
import Derived.Test.YtlncilcoohmlkaaDoorAw
import Derived.IntWalk
namespace Go.Proofs.YtlncilcoohmlkaaDoor
open Go Go.RowKit Go.Shelf
attribute [local go_sem ↓] Go.wp_at_zero Go.wp_at_succ

theorem turn_any (i : Int) (on : Bool) (w : World) : Calls Tryd.prog 35 #[.int .i64 i, .bool on] w fun r w' =>
    r = .returned (.func (.func 45) #[] #[.pointer (some ⟨w.heap.size, 0, none⟩), .pointer (some ⟨w.heap.size + 1, 0, none⟩)]) ∧ (w.alloc (.cells #[.int .i64 i] 3)).alloc (.cells #[.bool on] 4) = w' := by
  go_enter Tryd.func35, Tryd.ntmps35
  go_wp2
  go_ret
  exact ⟨rfl, rfl⟩

theorem cell_setCell_neU {W : World} {b o g i : Nat} {v : Value} (h : b ≠ g) : (W.setCell ⟨g, i, none⟩ v).cell? ⟨b, o, none⟩ = W.cell? ⟨b, o, none⟩ := by
  have := Below.heap_setCell W ⟨g, i, none⟩ v b h
  simp only [World.cell?, this]
theorem grownBy_setI (W : World) (b i : Nat) (v : Value) : W.grownBy (W.setCell ⟨b, i, none⟩ v) (some b) :=
  ⟨rfl, rfl, rfl, by show W.heap.size ≤ (W.heap.modify _ _).size; rw [Array.size_modify]; exact Nat.le_refl _, fun j _ hj => Below.heap_setCell W ⟨b, i, none⟩ v j (fun e => hj (by rw [e]))⟩

set_option maxHeartbeats 1000000 in
set_option maxRecDepth 20000 in
theorem turn1_any {W : World} {g cap n : Nat} {f : Nat → Nat} {i I O : Nat} {on : Bool} (hA : ArW W g cap 47 n f) (hf : ∀ j, j < n → f j < 4294967296) (hI : W.cell? ⟨I, 0, none⟩ = some (.int .i64 (i : Int))) (hO : W.cell? ⟨O, 0, none⟩ = some (.bool on)) (hi : i < 32 * n) (hi2 : i ≤ 20000) (hIg : I ≠ g) (hOg : O ≠ g) :
    Calls Tryd.prog 45 #[.slice (some ⟨g, 0, none⟩) n n, .pointer (some ⟨I, 0, none⟩), .pointer (some ⟨O, 0, none⟩)] W fun r W' =>
      (∃ v, r = .returned v) ∧ ArW W' g cap 47 n (fun j => if j = i / 32 then turnW (f j) (i % 32) on else f j) ∧ W.grownBy W' (some g) := by
  have hi32 : i / 32 < n := by omega
  have c1 := hA.cell (i / 32) hi32
  have c2 := hA.free (i / 32)
  have hlt := hf (i / 32) hi32
  have hk : i % 32 < 32 := Nat.mod_lt _ (by decide)
  have hle := hA.le
  have hmx := hA.mx
  have hgl := hA.lt
  have i1 : (0 : Int) ≤ (i : Int) / 32 := by omega
  have i2 : (i : Int) / 32 < (n : Int) := by omega
  have i3 : ((i : Int) / 32).toNat = i / 32 := by omega
  have i4 : IntKind.i64.wrap ((i : Int) / 32) = (i : Int) / 32 := IntWalk.i64_in _ (by omega)
  obtain ⟨k, hkk⟩ : ∃ k, i % 32 = k := ⟨_, rfl⟩
  have i7 : (i : Int).tmod 32 = (k : Int) := by rw [Int.tmod_eq_emod_of_nonneg (by omega)]; omega
  have HA := Lib.hid hA
  rw [hkk] at hk ⊢
  have HKK := Lib.hid hkk
  clear hkk
  have hx := u32_andNot (f (i / 32)) k
  have hor := (bits_nat .u32 32 (by decide) (fun n h0 h1 => by rw [IntKind.wrap_u32]; omega) (clearW (f (i / 32)) k) (2 ^ k) (clearW_lt _ _) (Nat.pow_lt_pow_right (by decide) hk)).2
  have hp0 : (2 : Int) ^ k < 4294967296 := by
    have h1 : 2 ^ k < 4294967296 := Nat.lt_of_lt_of_eq (Nat.pow_lt_pow_right (a := 2) (by decide) hk) (by decide)
    have h2 : ((2 ^ k : Nat) : Int) = (2 : Int) ^ k := by push_cast; rfl
    rw [← h2]
    omega
  have hp1 : (0 : Int) ≤ 2 ^ k := Int.pow_nonneg (by decide)
  have hp : (2 : Int) ^ k % 4294967296 = 2 ^ k := Int.emod_eq_of_lt hp1 hp0
  have hpw : IntKind.u32.wrap ((2 : Int) ^ k) = 2 ^ k := by rw [IntKind.wrap_u32, hp]
  rw [show ((2 ^ k : Nat) : Int) = (2 : Int) ^ k by push_cast; rfl] at hx hor
  have hmin : min k 32 = k := by omega
  have hS1 := hA.set (i / 32) (clearW (f (i / 32)) k) hi32
  have e1 := hS1.cell (i / 32) hi32
  rw [if_pos rfl] at e1
  have e2 := hS1.free (i / 32)
  have e3 : (W.setCell ⟨g, i / 32, none⟩ (.int .u32 ((clearW (f (i / 32)) k : Nat) : Int))).cell? ⟨I, 0, none⟩ = some (.int .i64 (i : Int)) := (cell_setCell_neU hIg).trans hI
  have e4 : (W.setCell ⟨g, i / 32, none⟩ (.int .u32 ((clearW (f (i / 32)) k : Nat) : Int))).cell? ⟨O, 0, none⟩ = some (.bool on) := (cell_setCell_neU hOg).trans hO
  obtain ⟨V1, hV1⟩ : ∃ V1, (W.setCell ⟨g, i / 32, none⟩ (.int .u32 ((clearW (f (i / 32)) k : Nat) : Int))).drew = V1 := ⟨_, rfl⟩
  have hSV : ArW V1 g cap 47 n (fun j => if j = i / 32 then clearW (f (i / 32)) k else f j) := by rw [← hV1]; exact ⟨hS1.ex, hS1.le, hS1.mx⟩
  have hGV : W.grownBy V1 (some g) := by rw [← hV1]; obtain ⟨q1, q2, q3, q4, q5⟩ := grownBy_setI W g (i / 32) (.int .u32 ((clearW (f (i / 32)) k : Nat) : Int)); exact ⟨q1, q2, q3, q4, q5⟩
  have e1' : V1.cell? ⟨g, i / 32, none⟩ = some (.int .u32 ((clearW (f (i / 32)) k : Nat) : Int)) := by rw [← hV1]; exact e1
  have e2' : V1.frozen? ⟨g, i / 32, none⟩ = false := by rw [← hV1]; exact e2
  have e3' : V1.cell? ⟨I, 0, none⟩ = some (.int .i64 (i : Int)) := by rw [← hV1]; exact e3
  have e4' : V1.cell? ⟨O, 0, none⟩ = some (.bool on) := by rw [← hV1]; exact e4
  have hS2 := hSV.set (i / 32) (clearW (f (i / 32)) k ||| 2 ^ k) hi32
  have hG2 := grownBy_setI V1 g (i / 32) (.int .u32 ((clearW (f (i / 32)) k ||| 2 ^ k : Nat) : Int))
  have HS1 := Lib.hid hSV
  have HS2 := Lib.hid hS2
  have HG1 := Lib.hid hGV
  have HG2 := Lib.hid hG2
  have HV1 := Lib.hid hV1
  generalize hfx : f (i / 32) = x at *
  have HFX := Lib.hid hfx
  clear hA hf hfx hS1 hS2 hSV hGV hG2 hp0 hp1 e1 e2 e3 e4 hV1
  have hcl := clearW_lt x k
  cases on with
  | false =>
    clear e1' e2' e3' e4'
    go_enter Tryd.func45, Tryd.ntmps45
    go_wp2_with fail
    refine wp_region_still_tail 10 (by kernel_rfl) (by kernel_rfl) ?_
    simp only [List.take_succ_cons, List.take_zero, List.drop_succ_cons, List.drop_zero]
    repeat still_step
    refine wpStill_nil ?_
    change wpList _ _ _ _ _ W.drew
    go_wp2
    rw [HV1.out]
    go_end0
    refine ⟨⟨_, rfl⟩, HS1.out.congr fun j hj => ?_, HG1.out⟩
    unfold turnW
    by_cases e : j = i / 32
    · rw [if_pos e, if_pos e, e, HFX.out]; rfl
    · rw [if_neg e, if_neg e]
  | true =>
    go_enter Tryd.func45, Tryd.ntmps45
    go_wp2_with fail
    refine wp_region_still_tail 10 (by kernel_rfl) (by kernel_rfl) ?_
    simp only [List.take_succ_cons, List.take_zero, List.drop_succ_cons, List.drop_zero]
    repeat still_step
    refine wpStill_nil ?_
    change wpList _ _ _ _ _ W.drew
    go_wp2
    rw [HV1.out]
    refine wp_region_still_tail 10 (by kernel_rfl) (by kernel_rfl) ?_
    simp only [List.take_succ_cons, List.take_zero, List.drop_succ_cons, List.drop_zero]
    repeat still_step
    refine wpStill_nil ?_
    change wpList _ _ _ _ _ V1.drew
    go_wp2
    go_end0
    obtain ⟨q1, q2, q3, q4, q5⟩ := HG1.out
    obtain ⟨p1, p2, p3, p4, p5⟩ := HG2.out
    refine ⟨⟨_, rfl⟩, (show ArW _ _ _ _ _ _ from ⟨HS2.out.ex, HS2.out.le, HS2.out.mx⟩ : ArW ((V1.setCell ⟨g, i / 32, none⟩ (.int .u32 ((clearW x k ||| 2 ^ k : Nat) : Int))).drew) g cap 47 n _).congr fun j hj => ?_, p1.trans q1, p2.trans q2, p3.trans q3, Nat.le_trans q4 p4, fun j hj hne => (p5 j (Nat.lt_of_lt_of_le hj q4) hne).trans (q5 j hj hne)⟩
    unfold turnW
    by_cases e : j = i / 32
    · rw [if_pos e, if_pos e, e, HFX.out]; rfl
    · rw [if_neg e, if_neg e, if_neg e]
end Go.Proofs.YtlncilcoohmlkaaDoor

/- Layer arena: New, check, Size, Byte, Put. -/
import Derived.Test.YtjoghbpekpgkpaaDoorN1
namespace Go.Proofs.YtjoghbpekpgkpaaDoor
open Go Go.RowKit
attribute [local go_sem ↓] Go.wp_at_zero Go.wp_at_succ

theorem blN {w a b : World} (h : Below w.heap.size w a) (hb : Below a.heap.size a b) : Below w.heap.size w b := h.trans (hb.mono h.size)

/-- An arena at block p: its bytes lie in block g. -/
structure ArenaV (W : World) (p g n : Nat) (f : Nat → Nat) : Prop where
  box : W.heap[p]? = some (.cells #[.slice (some ⟨g, 0, none⟩) n n] 68 (0, 0))
  arr : ArB W g 5 n f
  ne : p ≠ g

theorem ArenaV.cell {W : World} {p g n : Nat} {f : Nat → Nat} (h : ArenaV W p g n f) : W.cell? ⟨p, 0, none⟩ = some (.slice (some ⟨g, 0, none⟩) n n) := cells_cell h.box rfl
theorem ArenaV.next {W W' : World} {p g n : Nat} {f : Nat → Nat} (h : ArenaV W p g n f) (hb : Below W.heap.size W W') : ArenaV W' p g n f := ⟨(hb.block _ (block_lt h.box)).trans h.box, h.arr.next hb, h.ne⟩
theorem ArenaV.put {W W' : World} {p g n : Nat} {f f' : Nat → Nat} (h : ArenaV W p g n f) (hg : W.grownBy W' (some g)) (h2 : ArB W' g 5 n f') : ArenaV W' p g n f' := ⟨grown_block hg h.ne h.box, h2, h.ne⟩
theorem ArenaV.congr {W : World} {p g n : Nat} {f f' : Nat → Nat} (h : ArenaV W p g n f) (he : ∀ j, f j = f' j) : ArenaV W p g n f' := ⟨h.box, h.arr.congr he, h.ne⟩

/-- Do k bytes from a place on lie in n? -/
def inB (n : Nat) (a k : Int) : Bool := decide (0 ≤ a) && (decide (0 ≤ k) && (decide (a ≤ n) && decide (k ≤ n - a)))
theorem inB_iff {n : Nat} {a k : Int} : inB n a k = true ↔ 0 ≤ a ∧ 0 ≤ k ∧ a ≤ n ∧ k ≤ n - a := by
  simp [inB]
def chkN (n : Nat) (a k : Int) : ErN := bif inB n a k then .ok else .adr
def mul4 (a : Int) : Bool := decide (a.tmod 4 = 0)
def chk4 (n : Nat) (a k : Int) : ErN := bif mul4 a then chkN n a k else .adr

theorem dec_false {p : Prop} [Decidable p] (h : ¬ p) : decide p = false := decide_eq_false h

set_option maxHeartbeats 1000000 in
theorem check_nil {E : EnvN} {w : World} (hG : GlobN E w) (a k : Int) (l : Value) :
    Calls Tryd.prog 29 #[.pointer none, .int .i64 a, .int .i64 k, l] w fun r w' => r = .returned (ErN.val E .nil) ∧ w = w' := by
  have k0 := hG.cNil
  clear hG
  go_enter Tryd.func29, Tryd.ntmps29
  go_wp2
  go_ret
  exact ⟨rfl, rfl⟩

set_option maxHeartbeats 1000000 in
theorem check_N {E : EnvN} {w : World} {p g n : Nat} {f : Nat → Nat} (hG : GlobN E w) (hA : ArenaV w p g n f) (a k : Int) :
    Calls Tryd.prog 29 #[.pointer (some ⟨p, 0, none⟩), .int .i64 a, .int .i64 k, .slice none 0 0] w fun r w' => r = .returned (ErN.val E (chkN n a k)) ∧ w = w' := by
  have k0 := hG.cAdr
  have c0 := hA.cell
  have hmx := hA.arr.mx
  have wr : 0 ≤ a → a ≤ n → IntKind.i64.wrap ((n : Int) - a) = (n : Int) - a := fun h1 h2 => IntWalk.i64_in _ (by omega)
  clear hA hG
  unfold chkN
  cases h : inB n a k with
  | true =>
    obtain ⟨h1, h2, h3, h4⟩ := inB_iff.1 h
    replace wr := wr h1 h3
    have g1 : decide (a < 0) = false := dec_false (by omega)
    have g2 : decide (k < 0) = false := dec_false (by omega)
    have g3 : decide ((n : Int) < a) = false := dec_false (by omega)
    have g4 : decide ((n : Int) - a < k) = false := dec_false (by omega)
    clear h h1 h2 h3 h4 hmx
    go_enter Tryd.func29, Tryd.ntmps29
    go_wp2
    refine wp_loop_rounds 1 ?_
    rw [rounds_succ]
    go_wp2
    go_ret
    exact ⟨rfl, rfl⟩
  | false =>
    have hn : ¬ (0 ≤ a ∧ 0 ≤ k ∧ a ≤ n ∧ k ≤ n - a) := fun e => by rw [inB_iff.2 e] at h; cases h
    clear h
    by_cases h1 : 0 ≤ a
    · have g1 : decide (a < 0) = false := dec_false (by omega)
      by_cases h2 : 0 ≤ k
      · have g2 : decide (k < 0) = false := dec_false (by omega)
        by_cases h3 : a ≤ n
        · have g3 : decide ((n : Int) < a) = false := dec_false (by omega)
          have g4 : decide ((n : Int) - a < k) = true := decide_eq_true (by omega)
          replace wr := wr h1 h3
          clear h1 h2 h3 hn hmx
          go_enter Tryd.func29, Tryd.ntmps29
          go_wp2
          refine wp_loop_rounds 1 ?_
          rw [rounds_succ]
          go_wp2
          go_ret
          exact ⟨rfl, rfl⟩
        · have g3 : decide ((n : Int) < a) = true := decide_eq_true (by omega)
          clear h1 h2 h3 hn hmx wr
          go_enter Tryd.func29, Tryd.ntmps29
          go_wp2
          refine wp_loop_rounds 1 ?_
          rw [rounds_succ]
          go_wp2
          go_ret
          exact ⟨rfl, rfl⟩
      · have g2 : decide (k < 0) = true := decide_eq_true (by omega)
        clear h1 h2 hn hmx wr
        go_enter Tryd.func29, Tryd.ntmps29
        go_wp2
        refine wp_loop_rounds 1 ?_
        rw [rounds_succ]
        go_wp2
        go_ret
        exact ⟨rfl, rfl⟩
    · have g1 : decide (a < 0) = true := decide_eq_true (by omega)
      clear h1 hn hmx wr
      go_enter Tryd.func29, Tryd.ntmps29
      go_wp2
      refine wp_loop_rounds 1 ?_
      rw [rounds_succ]
      go_wp2
      go_ret
      exact ⟨rfl, rfl⟩

theorem sizeU8 (w : World) : (sizeOf 5).run Tryd.prog w = .ok 1 w := by kernel_rfl
theorem u8InfoN : (Tryd.prog.info? 5).map (fun i => (i.zero, i.size, i.bytes)) = some (some (.int .u8 0), 1, 1) := by kernel_rfl

set_option maxHeartbeats 1000000 in
theorem check_4 {E : EnvN} {w : World} {p g n : Nat} {f : Nat → Nat} (hG : GlobN E w) (hA : ArenaV w p g n f) (a k c : Int) {b cap : Nat} (hc : w.cell? ⟨b, 0, none⟩ = some (.int .i64 c)) :
    Calls Tryd.prog 29 #[.pointer (some ⟨p, 0, none⟩), .int .i64 a, .int .i64 k, .slice (some ⟨b, 0, none⟩) 1 cap] w fun r w' => r = .returned (ErN.val E (bif mul4 c then chkN n a k else .adr)) ∧ w = w' := by
  have k0 := hG.cAdr
  have c0 := hA.cell
  have hmx := hA.arr.mx
  have wr : 0 ≤ a → a ≤ n → IntKind.i64.wrap ((n : Int) - a) = (n : Int) - a := fun h1 h2 => IntWalk.i64_in _ (by omega)
  clear hA hG
  unfold mul4
  by_cases hm : c.tmod 4 = 0
  · rw [decide_eq_true hm]
    unfold chkN
    cases h : inB n a k with
    | true =>
      obtain ⟨h1, h2, h3, h4⟩ := inB_iff.1 h
      replace wr := wr h1 h3
      have g1 : decide (a < 0) = false := dec_false (by omega)
      have g2 : decide (k < 0) = false := dec_false (by omega)
      have g3 : decide ((n : Int) < a) = false := dec_false (by omega)
      have g4 : decide ((n : Int) - a < k) = false := dec_false (by omega)
      clear h h1 h2 h3 h4 hmx
      go_enter Tryd.func29, Tryd.ntmps29
      go_wp2
      refine wp_loop_rounds 2 ?_
      rw [rounds_succ]
      go_wp2
      rw [rounds_succ]
      go_wp2
      go_ret
      exact ⟨rfl, rfl⟩
    | false =>
      have hn : ¬ (0 ≤ a ∧ 0 ≤ k ∧ a ≤ n ∧ k ≤ n - a) := fun e => by rw [inB_iff.2 e] at h; cases h
      clear h
      by_cases h1 : 0 ≤ a
      · have g1 : decide (a < 0) = false := dec_false (by omega)
        by_cases h2 : 0 ≤ k
        · have g2 : decide (k < 0) = false := dec_false (by omega)
          by_cases h3 : a ≤ n
          · have g3 : decide ((n : Int) < a) = false := dec_false (by omega)
            have g4 : decide ((n : Int) - a < k) = true := decide_eq_true (by omega)
            replace wr := wr h1 h3
            clear h1 h2 h3 hn hmx
            go_enter Tryd.func29, Tryd.ntmps29
            go_wp2
            refine wp_loop_rounds 2 ?_
            rw [rounds_succ]
            go_wp2
            rw [rounds_succ]
            go_wp2
            go_ret
            exact ⟨rfl, rfl⟩
          · have g3 : decide ((n : Int) < a) = true := decide_eq_true (by omega)
            clear h1 h2 h3 hn hmx wr
            go_enter Tryd.func29, Tryd.ntmps29
            go_wp2
            refine wp_loop_rounds 2 ?_
            rw [rounds_succ]
            go_wp2
            rw [rounds_succ]
            go_wp2
            go_ret
            exact ⟨rfl, rfl⟩
        · have g2 : decide (k < 0) = true := decide_eq_true (by omega)
          clear h1 h2 hn hmx wr
          go_enter Tryd.func29, Tryd.ntmps29
          go_wp2
          refine wp_loop_rounds 2 ?_
          rw [rounds_succ]
          go_wp2
          rw [rounds_succ]
          go_wp2
          go_ret
          exact ⟨rfl, rfl⟩
      · have g1 : decide (a < 0) = true := decide_eq_true (by omega)
        clear h1 hn hmx wr
        go_enter Tryd.func29, Tryd.ntmps29
        go_wp2
        refine wp_loop_rounds 2 ?_
        rw [rounds_succ]
        go_wp2
        rw [rounds_succ]
        go_wp2
        go_ret
        exact ⟨rfl, rfl⟩
  · rw [decide_eq_false hm]
    clear hmx wr c0
    go_enter Tryd.func29, Tryd.ntmps29
    go_wp2
    refine wp_loop_rounds 2 ?_
    rw [rounds_succ]
    go_wp2
    go_ret
    exact ⟨rfl, rfl⟩
theorem val_nil_ne {E : EnvN} (w : World) : (binOp .neq 64 (ErN.val E .ok) .nilIface).run Tryd.prog w = .ok (.bool false) w := by
  kernel_rfl

theorem size_N {w : World} {p g n : Nat} {f : Nat → Nat} (hA : ArenaV w p g n f) : Calls Tryd.prog 14 #[.pointer (some ⟨p, 0, none⟩)] w fun r w' => r = .returned (.int .i64 (n : Int)) ∧ w = w' := by
  have c0 := hA.cell
  clear hA
  go_enter Tryd.func14, Tryd.ntmps14
  go_wp2
  go_ret
  exact ⟨rfl, rfl⟩
theorem size_nil (w : World) : Calls Tryd.prog 14 #[.pointer none] w fun r w' => r = .returned (.int .i64 0) ∧ w = w' := by
  go_enter Tryd.func14, Tryd.ntmps14
  go_wp2
  go_ret
  exact ⟨rfl, rfl⟩

def byteA (n : Nat) (f : Nat → Nat) (a : Int) : Nat := bif inB n a 1 then f a.toNat else 0
theorem byte_N {E : EnvN} {w : World} {p g n : Nat} {f : Nat → Nat} (hG : GlobN E w) (hA : ArenaV w p g n f) (a : Int) :
    Calls Tryd.prog 13 #[.pointer (some ⟨p, 0, none⟩), .int .i64 a] w fun r w' => r = .returned (.tuple #[.int .i64 ((byteA n f a : Nat) : Int), .int .i64 (chkN n a 1).code]) ∧ w = w' := by
  have C := check_N hG hA a 1
  have T := told_N hG (chkN n a 1)
  have c0 := hA.cell
  unfold byteA
  cases h : inB n a 1 with
  | true =>
    have e : chkN n a 1 = .ok := by unfold chkN; rw [h]; rfl
    rw [e] at C ⊢
    obtain ⟨h1, h2, h3, h4⟩ := inB_iff.1 h
    obtain ⟨A, rfl⟩ : ∃ A : Nat, a = A := ⟨a.toNat, by omega⟩
    have c1 := hA.arr.cell A (by omega)
    have hlt : (A : Int) < n := by omega
    have h8 := hA.arr.by8 A
    have wv : IntKind.i64.wrap ((f A : Nat) : Int) = (f A : Nat) := IntWalk.i64_in _ (by omega)
    rw [Int.toNat_natCast]
    generalize f A = x at *
    clear T hG hA h h1 h2 h3 h4 h8 e
    go_enter Tryd.func13, Tryd.ntmps13
    go_wp2_with fail
    refine C.mono ?_
    rintro r w' ⟨rfl, rfl⟩
    unfold ErN.val
    go_wp2
    exact bodyPost_ret (results_tmp2 rfl _ _ _) rfl ⟨rfl, rfl⟩
  | false =>
    have e : chkN n a 1 = .adr := by unfold chkN; rw [h]; rfl
    rw [e] at C T ⊢
    clear hG hA h e c0
    go_enter Tryd.func13, Tryd.ntmps13
    go_wp2_with fail
    refine C.mono ?_
    rintro r w' ⟨rfl, rfl⟩
    unfold ErN.val at T ⊢
    go_wp2_with fail
    refine T.mono ?_
    rintro r w' ⟨rfl, rfl⟩
    go_wp2
    exact bodyPost_ret (results_tmp2 rfl _ _ _) rfl ⟨rfl, rfl⟩
end Go.Proofs.YtjoghbpekpgkpaaDoor

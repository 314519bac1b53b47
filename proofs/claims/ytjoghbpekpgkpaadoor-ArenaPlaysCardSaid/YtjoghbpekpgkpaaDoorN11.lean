/- Layer arena: Cut: the calls that are played. -/
import Derived.Test.YtjoghbpekpgkpaaDoorN10
namespace Go.Proofs.YtjoghbpekpgkpaaDoor
open Go Go.RowKit Go.Shelf
attribute [local go_sem ↓] Go.wp_at_zero Go.wp_at_succ
attribute [local go_sem ↓] run_max_int run_min_int

def cutB (s : ByteArray) (k : Nat) : ByteArray := s.extract 0 (min s.size k)
def cutX (x : XOp) : XOp := { x with s := cutB x.s 200 }
def cutO (l : List XOp) : List XOp := (l.take 20).map cutX
def opL (x : XOp) : List Value := [.int .i64 x.kind, .int .i64 x.pl, .int .i64 x.num, .int .u32 (x.v : Int), .string x.s]
def opsC (l : List XOp) : List Value := l.flatMap opL
theorem opsC_len (l : List XOp) : (opsC l).length = l.length * 5 := by
  induction l with
  | nil => rfl
  | cons x l ih => simp [opsC, opL] at ih ⊢; omega
theorem opsC_get (l : List XOp) : ∀ i, i < l.length → ∀ j, j < 5 → (opsC l)[i * 5 + j]? = (opL (l.getD i op0))[j]? := by
  induction l with
  | nil => intro i hi; simp at hi
  | cons x l ih =>
    intro i hi j hj
    have e : opsC (x :: l) = opL x ++ opsC l := rfl
    rw [e]
    cases i with
    | zero =>
      rw [List.getElem?_append_left (by show 0 * 5 + j < 5; omega), show 0 * 5 + j = j by omega]
      rfl
    | succ i =>
      rw [List.getElem?_append_right (by show 5 ≤ (i + 1) * 5 + j; omega), show (i + 1) * 5 + j - (opL x).length = i * 5 + j by (show (i + 1) * 5 + j - 5 = i * 5 + j; omega), ih i (by simpa using hi) j hj]
      simp [List.getD]
theorem opsC_app (l m : List XOp) : opsC (l ++ m) = opsC l ++ opsC m := by unfold opsC; rw [List.flatMap_append]
theorem cutO_get (l : List XOp) (k : Nat) (h : k < l.length) (h2 : k < 20) : (cutO l).take (k + 1) = (cutO l).take k ++ [cutX (l.getD k op0)] := by
  have hk : k < (cutO l).length := by simp [cutO]; omega
  rw [← List.take_append_getElem hk]
  congr 2
  simp [cutO, List.getD, h]
theorem OpsV.of_row {W : World} {base : Nat} {e : TypeId} {v : Value} {l : List XOp} (h : W.ownsRow base e 5 v l.length (opsC l)) : OpsV W v l := by
  rcases h.2 with ⟨rfl, h0⟩ | ⟨g, cap, cur, rfl, hbg, hg, h1, h2, h3, h4⟩
  · obtain rfl : l = [] := List.length_eq_zero_iff.1 h0
    exact .empty none 0
  · have key : ∀ i, i < l.length → ∀ j, j < 5 → W.cell? ⟨g, 0 + i * 5 + j, none⟩ = (opL (l.getD i op0))[j]? := by
      intro i hi j hj
      have h5 : (cur.toList.take (l.length * 5))[i * 5 + j]? = (opL (l.getD i op0))[j]? := by rw [h4]; exact opsC_get l i hi j hj
      rw [List.getElem?_take, if_pos (by omega)] at h5
      rw [← h5, show 0 + i * 5 + j = i * 5 + j by omega]
      simp [World.cell?, hg]
    refine .some g 0 cap l h1 (by unfold maxLen at h2; omega) fun i hi => ⟨key i hi 0 (by decide), key i hi 1 (by decide), key i hi 2 (by decide), key i hi 3 (by decide), key i hi 4 (by decide)⟩
theorem opInfo : (Tryd.prog.info? 44).map (fun i => (i.zero, i.size, i.bytes)) = some (some (.agg #[.int .i64 0, .int .i64 0, .int .i64 0, .int .u32 0, .string ⟨#[]⟩]), 5, 48) := by kernel_rfl

set_option maxHeartbeats 4000000 in
set_option maxRecDepth 20000 in
theorem cut_N {w : World} {v : Value} {l : List XOp} (hv : OpsV w v l) :
    Calls Tryd.prog 16 #[v] w fun r w' => (∃ v', r = .returned v' ∧ OpsV w' v' (cutO l)) ∧ Below w.heap.size w w' := by
  obtain ⟨i0, hi, hz0, hz1, hz2⟩ := info_parts opInfo
  cases hv with
  | empty a cap =>
    go_enter Tryd.func16, Tryd.ntmps16
    go_wp2
    refine wp_loop_rounds 1 ?_
    rw [rounds_succ]
    go_wp2
    go_ret
    exact ⟨⟨_, rfl, .empty _ _⟩, Below.refl _ _⟩
  | some b off cap l hl hm hc =>
    have HC := Lib.hid hc
    clear hc
    go_enter Tryd.func16, Tryd.ntmps16
    go_wp2
    go_loopw [3, 4] (fun o q W => ∃ k : Nat, k ≤ l.length ∧ k ≤ 20 ∧ q = .int .i64 (k : Int) ∧ W.ownsRow w.heap.size 44 5 o k (opsC ((cutO l).take k)) ∧ Below w.heap.size w W) (fun _ q _ => 20 - (intOf q).toNat)
    case atStart => exact ⟨0, Nat.zero_le _, Nat.zero_le _, rfl, World.ownsRow_nil _ _ _ _, Below.refl _ _⟩
    case round =>
      obtain ⟨k, hk, hk2, rfl, hrow, hB⟩ := hrel
      by_cases hlt : k < l.length
      · by_cases hlt2 : k < 20
        · have X := (HC.out k hlt).below hB
          have hT := cutO_get l k hlt hlt2
          generalize l.getD k op0 = x at *
          have c0 := X.c0
          have c1 := X.c1
          have c2 := X.c2
          have c3 := X.c3
          have c4 := X.c4
          obtain ⟨sx, hsx⟩ : ∃ sx, x.s.extract 0 (min (x.s.size : Int) 200).toNat = sx := ⟨_, rfl⟩
          have hcx : opsC [cutX x] = [.int .i64 x.kind, .int .i64 x.pl, .int .i64 x.num, .int .u32 (x.v : Int), .string sx] := by
            rw [← hsx, show (min (x.s.size : Int) 200).toNat = min x.s.size 200 by omega]
            rfl
          have hcat : opsC ((cutO l).take (k + 1)) = opsC ((cutO l).take k) ++ [.int .i64 x.kind, .int .i64 x.pl, .int .i64 x.num, .int .u32 (x.v : Int), .string sx] := by rw [hT, opsC_app, hcx]
          have HCAT := Lib.hid hcat
          have hs := hB.size
          have hrow2 := (hrow.alloc (.cells #[.int .i64 x.kind, .int .i64 x.pl, .int .i64 x.num, .int .u32 (x.v : Int), .string sx] 44)).alloc (.cells #[.int .i64 x.kind, .int .i64 x.pl, .int .i64 x.num, .int .u32 (x.v : Int), .string sx] 44)
          have hnew : ∀ j u, [Value.int .i64 x.kind, .int .i64 x.pl, .int .i64 x.num, .int .u32 (x.v : Int), .string sx][j]? = some u → ((wr.alloc (.cells #[.int .i64 x.kind, .int .i64 x.pl, .int .i64 x.num, .int .u32 (x.v : Int), .string sx] 44)).alloc (.cells #[.int .i64 x.kind, .int .i64 x.pl, .int .i64 x.num, .int .u32 (x.v : Int), .string sx] 44)).cell? ((⟨wr.heap.size + 1, 0, none⟩ : Addr).add j) = some u := by
            intro j u hj
            rw [Addr.add_lit, Nat.zero_add]
            have := World.alloc_heap_new (wr.alloc (.cells #[.int .i64 x.kind, .int .i64 x.pl, .int .i64 x.num, .int .u32 (x.v : Int), .string sx] 44)) (.cells #[.int .i64 x.kind, .int .i64 x.pl, .int .i64 x.num, .int .u32 (x.v : Int), .string sx] 44)
            rw [World.size_alloc] at this
            exact cells_cell this (by simpa using hj)
          have hB2 : Below w.heap.size w ((wr.alloc (.cells #[.int .i64 x.kind, .int .i64 x.pl, .int .i64 x.num, .int .u32 (x.v : Int), .string sx] 44)).alloc (.cells #[.int .i64 x.kind, .int .i64 x.pl, .int .i64 x.num, .int .u32 (x.v : Int), .string sx] 44)) := (hB.alloc hs _).alloc (by simp; omega) _
          clear X hT hcx hcat
          go_wp2_with (at_builtin; refine wpList_append_own _ rfl _ _ 34 rfl w.heap.size 44 i0 (.agg #[.int .i64 0, .int .i64 0, .int .i64 0, .int .u32 0, .string ⟨#[]⟩]) 5 48 Tryd.underlying34 hi hz0 hz1 hz2 rfl (by decide) _ _ _ rfl hrow2 ⟨wr.heap.size + 1, 0, none⟩ 1 1 [.int .i64 x.kind, .int .i64 x.pl, .int .i64 x.num, .int .u32 (x.v : Int), .string sx] rfl rfl hnew (by simp [Value.oneCell']) (by unfold maxLen; omega) (by omega) (by simp; omega) ?_; intro v' w5 hown' hgrow _)
          have hB5 : Below w.heap.size w w5 := hB2.grown hgrow (by simp; omega) (fun q hq => ownsRow_block hrow hq.symm)
          have HO := Lib.hid hown'
          clear hgrow hown' hrow2 hnew hB2 c0 c1 c2 c3 c4
          go_round
          case rel => exact ⟨k + 1, by omega, by omega, by go_num, by rw [HCAT.out]; exact HO.out, hB5⟩
          case measure => simp [intOf]; omega
        · obtain rfl : k = 20 := by omega
          have hlen : (cutO l).length = 20 := by simp [cutO]; omega
          have g0 : decide ((20 : Int) < (l.length : Int)) = true := decide_eq_true (by omega)
          rw [List.take_of_length_le (by omega)] at hrow
          have HR := Lib.hid (OpsV.of_row (l := cutO l) (by rw [hlen]; exact hrow))
          rw [show ((20 : Nat) : Int) = 20 from rfl]
          clear hrow hlen hlt hlt2 hk hk2
          go_wp2
          go_ret
          exact ⟨⟨_, rfl, HR.out⟩, hB⟩
      · obtain rfl : k = l.length := by omega
        have hlen : (cutO l).length = l.length := by simp [cutO]; omega
        rw [List.take_of_length_le (by omega)] at hrow
        have HR := Lib.hid (OpsV.of_row (l := cutO l) (by rw [hlen]; exact hrow))
        clear hrow hlen hlt hk
        go_wp2
        go_ret
        exact ⟨⟨_, rfl, HR.out⟩, hB⟩
end Go.Proofs.YtjoghbpekpgkpaaDoor

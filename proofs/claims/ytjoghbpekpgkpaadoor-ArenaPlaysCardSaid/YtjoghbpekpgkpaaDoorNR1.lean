/- Layer arena: the document's answer: New, within, Byte, Put, Read, Write. -/
import Derived.Test.YtjoghbpekpgkpaaDoorN8
namespace Go.Proofs.YtjoghbpekpgkpaaDoor
open Go Go.RowKit Go.Shelf
attribute [local go_sem ↓] Go.wp_at_zero Go.wp_at_succ

/-- The document's arena at block p: its bytes lie in block g. -/
structure RefV (W : World) (p g n : Nat) (f : Nat → Nat) : Prop where
  box : W.heap[p]? = some (.cells #[.slice (some ⟨g, 0, none⟩) n n] 50 (0, 0))
  arr : ArB W g 5 n f
  ne : p ≠ g
theorem RefV.cell {W : World} {p g n : Nat} {f : Nat → Nat} (h : RefV W p g n f) : W.cell? ⟨p, 0, none⟩ = some (.slice (some ⟨g, 0, none⟩) n n) := cells_cell h.box rfl
theorem RefV.next {W W' : World} {p g n : Nat} {f : Nat → Nat} (h : RefV W p g n f) (hb : Below W.heap.size W W') : RefV W' p g n f := ⟨(hb.block _ (block_lt h.box)).trans h.box, h.arr.next hb, h.ne⟩
theorem RefV.put {W W' : World} {p g n : Nat} {f f' : Nat → Nat} (h : RefV W p g n f) (hg : W.grownBy W' (some g)) (h2 : ArB W' g 5 n f') : RefV W' p g n f' := ⟨grown_block hg h.ne h.box, h2, h.ne⟩
theorem RefV.congr {W : World} {p g n : Nat} {f f' : Nat → Nat} (h : RefV W p g n f) (he : ∀ j, f j = f' j) : RefV W p g n f' := ⟨h.box, h.arr.congr he, h.ne⟩
theorem RefV.apart {W W' : World} {p g g' n : Nat} {f : Nat → Nat} (h : RefV W p g n f) (hb : W.grownBy W' (some g')) (hp : p ≠ g') (hg : g ≠ g') : RefV W' p g n f :=
  ⟨grown_block hb hp h.box, h.arr.same (hb.block _ h.arr.lt (fun e => hg (Option.some.inj e))), h.ne⟩

set_option maxHeartbeats 1000000 in
theorem newR_yes (w : World) (k : Nat) (h1 : 1 ≤ k) (h2 : k ≤ 32) :
    Calls Tryd.prog 17 #[.int .i64 (k : Int)] w fun r w' => (∃ p g, r = .returned (.tuple #[.pointer (some ⟨p, 0, none⟩), .int .i64 0]) ∧ w.heap.size ≤ p ∧ w.heap.size ≤ g ∧ RefV w' p g (4096 * k) (fun _ => 0)) ∧ Below w.heap.size w w' := by
  have wb : IntKind.i64.wrap ((k : Int) * 4096) = ((4096 * k : Nat) : Int) := by rw [IntWalk.i64_in _ (by omega)]; omega
  have g1 : decide ((k : Int) < 1) = false := dec_false (by omega)
  have g2 : decide ((32 : Int) < (k : Int)) = false := dec_false (by omega)
  have hmk := fun w => run_makeB w (4096 * k) (by omega)
  have hA := ArB.made w 5 (4096 * k) (by omega)
  generalize hn : 4096 * k = n at *
  clear hn h1 h2
  go_enter Tryd.func17, Tryd.ntmps17
  go_wp2
  refine bodyPost_ret (results_tmp2 rfl _ _ _) rfl ⟨⟨w.heap.size + 1, w.heap.size, rfl, by omega, Nat.le_refl _, ?_⟩, ((Below.refl _ w).alloc (Nat.le_refl _) _).alloc (by simp) _⟩
  exact ⟨by have := World.alloc_heap_new (w.alloc (.cells (madeCells #[.int .u8 0] n) 5)) (.cells #[.slice (some ⟨w.heap.size, 0, none⟩) n n] 50); rwa [World.size_alloc] at this, hA.next ((Below.refl _ _).alloc (Nat.le_refl _) _), by omega⟩
theorem newR_no (w : World) (b : Int) (h : b < 1 ∨ 32 < b) :
    Calls Tryd.prog 17 #[.int .i64 b] w fun r w' => r = .returned (.tuple #[.pointer none, .int .i64 2]) ∧ w = w' := by
  by_cases h1 : b < 1
  · have g1 : decide (b < 1) = true := decide_eq_true h1
    clear h h1
    go_enter Tryd.func17, Tryd.ntmps17
    go_wp2
    exact bodyPost_ret (results_tmp2 rfl _ _ _) rfl ⟨rfl, rfl⟩
  · have g1 : decide (b < 1) = false := dec_false h1
    have g2 : decide (32 < b) = true := decide_eq_true (by omega)
    clear h h1
    go_enter Tryd.func17, Tryd.ntmps17
    go_wp2
    exact bodyPost_ret (results_tmp2 rfl _ _ _) rfl ⟨rfl, rfl⟩

set_option maxHeartbeats 1000000 in
theorem within_N {w : World} {p g n : Nat} {f : Nat → Nat} (hA : RefV w p g n f) (a k : Int) :
    Calls Tryd.prog 43 #[.pointer (some ⟨p, 0, none⟩), .int .i64 a, .int .i64 k] w fun r w' => r = .returned (.bool (inB n a k)) ∧ w = w' := by
  have c0 := hA.cell
  have hmx := hA.arr.mx
  have wr : 0 ≤ a → a ≤ n → IntKind.i64.wrap ((n : Int) - a) = (n : Int) - a := fun h1 h2 => IntWalk.i64_in _ (by omega)
  clear hA
  unfold inB
  cases g1 : decide (0 ≤ a) with
  | false =>
    clear wr
    go_enter Tryd.func43, Tryd.ntmps43
    go_wp2
    go_ret
    exact ⟨rfl, rfl⟩
  | true =>
    cases g2 : decide (0 ≤ k) with
    | false =>
      clear wr
      go_enter Tryd.func43, Tryd.ntmps43
      go_wp2
      go_ret
      exact ⟨rfl, rfl⟩
    | true =>
      cases g3 : decide (a ≤ (n : Int)) with
      | false =>
        clear wr
        go_enter Tryd.func43, Tryd.ntmps43
        go_wp2
        go_ret
        exact ⟨rfl, rfl⟩
      | true =>
        replace wr := wr (of_decide_eq_true g1) (of_decide_eq_true g3)
        go_enter Tryd.func43, Tryd.ntmps43
        go_wp2
        go_ret
        exact ⟨by first | rfl | simp, rfl⟩

set_option maxHeartbeats 1000000 in
set_option maxRecDepth 20000 in
theorem readR {w : World} {p g n : Nat} {f : Nat → Nat} (hA : RefV w p g n f) (a k : Int) :
    Calls Tryd.prog 35 #[.pointer (some ⟨p, 0, none⟩), .int .i64 a, .int .i64 k] w fun r w' => r = .returned (.tuple #[.string (readN n f a k), .int .i64 (chkN n a k).code]) ∧ w = w' := by
  have C := within_N hA a k
  have c0 := hA.cell
  unfold readN
  cases h : inB n a k with
  | true =>
    have e : chkN n a k = .ok := by unfold chkN; rw [h]; rfl
    rw [h] at C
    rw [e]
    obtain ⟨h1, h2, h3, h4⟩ := inB_iff.1 h
    obtain ⟨A, rfl⟩ : ∃ A : Nat, a = A := ⟨a.toNat, by omega⟩
    obtain ⟨K, rfl⟩ : ∃ K : Nat, k = K := ⟨k.toNat, by omega⟩
    have hAK : A + K ≤ n := by omega
    have hmx := hA.arr.mx
    have wv : IntKind.i64.wrap ((A : Int) + K) = (A : Int) + K := IntWalk.i64_in _ (by omega)
    obtain ⟨o, hsl, ho⟩ := slice_B w g n A K hAK
    have hcv := conv_B hA.arr A K (n - A) o hAK ho
    rw [Int.toNat_natCast, Int.toNat_natCast]
    clear hA h h1 h2 h3 h4 e hAK hmx ho
    go_enter Tryd.func35, Tryd.ntmps35
    go_wp2_with fail
    refine C.mono ?_
    rintro r w' ⟨rfl, rfl⟩
    go_wp2
    exact bodyPost_ret (results_tmp2 rfl _ _ _) rfl ⟨rfl, rfl⟩
  | false =>
    have e : chkN n a k = .adr := by unfold chkN; rw [h]; rfl
    rw [h] at C
    rw [e]
    clear hA h e c0
    go_enter Tryd.func35, Tryd.ntmps35
    go_wp2_with fail
    refine C.mono ?_
    rintro r w' ⟨rfl, rfl⟩
    go_wp2
    exact bodyPost_ret (results_tmp2 rfl _ _ _) rfl ⟨rfl, rfl⟩

theorem put_take {f : Nat → Nat} {A : Nat} {L : List Nat} {k : Nat} (h : k < L.length) (j : Nat) : (if j = A + k then L.getD k 0 else put f A (L.take k) j) = put f A (L.take (k + 1)) j := by
  have l1 : (L.take k).length = k := by simp; omega
  have l2 : (L.take (k + 1)).length = k + 1 := by simp; omega
  unfold put
  rw [l1, l2]
  by_cases e : j = A + k
  · subst e
    rw [if_pos rfl, if_pos (by omega), Nat.add_sub_cancel_left]
    simp [List.getD]
  · rw [if_neg e]
    by_cases h2 : A ≤ j ∧ j < A + k
    · rw [if_pos h2, if_pos (by omega)]
      have : j - A < k := by omega
      have h3 : j - A < k + 1 := by omega
      simp [List.getD, this, h3]
    · rw [if_neg h2, if_neg (by omega)]

set_option maxHeartbeats 2000000 in
set_option maxRecDepth 20000 in
theorem writeR {w : World} {p g n : Nat} {f : Nat → Nat} (hA : RefV w p g n f) (a : Int) (s : ByteArray) (hs : s.size ≤ 1000000) :
    Calls Tryd.prog 36 #[.pointer (some ⟨p, 0, none⟩), .int .i64 a, .string s] w fun r w' => r = .returned (.int .i64 (chkN n a s.size).code) ∧ RefV w' p g n (writeF n f a s) ∧ w.grownBy w' (some g) := by
  have C := within_N hA a s.size
  unfold writeF
  cases h : inB n a s.size with
  | false =>
    have e : chkN n a s.size = .adr := by unfold chkN; rw [h]; rfl
    rw [h] at C
    rw [e]
    have HA := Lib.hid hA
    clear hA h e
    go_enter Tryd.func36, Tryd.ntmps36
    go_wp2_with fail
    refine C.mono ?_
    rintro r w' ⟨rfl, rfl⟩
    go_wp2
    go_ret
    exact ⟨rfl, HA.out, grown_refl _ _⟩
  | true =>
    have e : chkN n a s.size = .ok := by unfold chkN; rw [h]; rfl
    rw [h] at C
    rw [e]
    obtain ⟨h1, h2, h3, h4⟩ := inB_iff.1 h
    obtain ⟨A, rfl⟩ : ∃ A : Nat, a = A := ⟨a.toNat, by omega⟩
    have hAK : A + s.size ≤ n := by omega
    have hmx := hA.arr.mx
    rw [Int.toNat_natCast]
    have HA := Lib.hid (hA.congr (f' := put f A ((bytesOf s).take 0)) fun j => by rw [List.take_zero]; unfold put; rw [if_neg (by simp)])
    have hbl := bytesOf_len s
    have HBL := Lib.hid hbl
    have hat : ∀ k (h : k < s.size), (s[k]'h).toNat = (bytesOf s).getD k 0 := fun k h => by
      have h' : k < (bytesOf s).length := by rw [hbl]; exact h
      rw [List.getD_eq_getElem?_getD, List.getElem?_eq_getElem h', Option.getD_some]
      have e : (bytesOf s)[k]'h' = (s.data.toList[k]'(by simpa using h)).toNat := List.getElem_map _
      rw [e]
      simp
      rfl
    have HAT := Lib.hid hat
    have HLT := Lib.hid (bytesOf_lt s)
    clear hA h h1 h2 h3 h4 e hbl hat
    go_enter Tryd.func36, Tryd.ntmps36
    go_wp2_with fail
    refine C.mono ?_
    rintro r w' ⟨rfl, rfl⟩
    clear C
    go_wp2
    go_loopw [7] (fun q W => ∃ k : Nat, k ≤ s.size ∧ q = .int .i64 (k : Int) ∧ RefV W p g n (put f A ((bytesOf s).take k)) ∧ w.grownBy W (some g)) (fun q _ => s.size - (intOf q).toNat)
    case atStart => exact ⟨0, Nat.zero_le _, rfl, HA.out, grown_refl _ _⟩
    case round =>
      obtain ⟨k, hk, rfl, hR, hg⟩ := hrel
      by_cases hlt : k < s.size
      · have c0 := hR.cell
        have c1 := hR.arr.cell (A + k) (by omega)
        have c2 := hR.arr.free (A + k)
        have hbk : ∀ h : k < s.size, (s[k]'h).toNat = (bytesOf s).getD k 0 := fun h => HAT.out k h
        have hk2 : k < (bytesOf s).length := by rw [HBL.out]; exact hlt
        have hx : (bytesOf s).getD k 0 < 256 := by
          rw [List.getD_eq_getElem?_getD, List.getElem?_eq_getElem hk2]
          exact HLT.out _ (List.getElem_mem hk2)
        have hd : Below wr.heap.size wr wr.drew := (Below.refl _ _).drew
        have hfin := (hR.next hd).put (grown_set wr.drew g (A + k) (.int .u8 (((bytesOf s).getD k 0 : Nat) : Int))) (((hR.next hd).arr.set (A + k) _ hx).congr fun j => put_take hk2 j)
        have hgf := grown_trans (grown_trans hg (grown_below hd (some g))) (grown_set wr.drew g (A + k) (.int .u8 (((bytesOf s).getD k 0 : Nat) : Int)))
        generalize (bytesOf s).getD k 0 = x at *
        generalize put f A ((bytesOf s).take k) (A + k) = y at *
        have i1 : (0 : Int) ≤ (k : Int) := by omega
        have i2 : (k : Int) < (s.size : Int) := by omega
        have i3 : (0 : Int) ≤ (A : Int) + (k : Int) := by omega
        have i4 : (A : Int) + (k : Int) < (n : Int) := by omega
        have i5 : ((A : Int) + (k : Int)).toNat = A + k := by omega
        have w1 : IntKind.i64.wrap ((A : Int) + (k : Int)) = (A : Int) + (k : Int) := IntWalk.i64_in _ (by omega)
        have w2 : IntKind.i64.wrap ((k : Int) + 1) = (k : Int) + 1 := IntWalk.i64_in _ (by omega)
        have HF := Lib.hid hfin
        have HGF := Lib.hid hgf
        clear hfin hgf hR hg hx hk2 hd
        go_wp2
        refine wp_region_still_tail 11 (by kernel_rfl) (by kernel_rfl) ?_
        simp only [List.take_succ_cons, List.take_zero, List.drop_succ_cons, List.drop_zero]
        repeat still_step
        refine wpStill_nil ?_
        change wpList _ _ _ _ _ wr.drew
        go_wp2
        go_round
        case rel => exact ⟨k + 1, by omega, by go_num, HF.out, HGF.out⟩
        case measure => simp [intOf]; omega
      · obtain rfl : k = s.size := by omega
        rw [List.take_of_length_le (by rw [HBL.out]; exact Nat.le_refl _)] at hR
        have HR := Lib.hid hR
        clear hR hlt hk
        go_wp2
        go_ret
        exact ⟨rfl, HR.out, hg⟩
end Go.Proofs.YtjoghbpekpgkpaaDoor

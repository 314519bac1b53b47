/- Layer head: isThere, isAt, Put into an arena. -/
import Derived.Test.YtdhligapadblgaaDoorK7
import Derived.Test.YtdhligapadblgaaDoorN8
namespace Go.Proofs.YtdhligapadblgaaDoor
open Go.RowKit
attribute [local go_sem ↓] Go.wp_at_zero Go.wp_at_succ

theorem there_some (p : Nat) (w : World) : Calls Tryd.prog 37 #[.pointer (some ⟨p, 0, none⟩)] w fun r w' => r = .returned .nilIface ∧ w = w' := by
  go_enter Tryd.func37, Tryd.ntmps37
  go_wp2
  go_ret
  exact ⟨rfl, rfl⟩
def mul8 (a : Int) : Bool := decide (a.tmod 8 = 0)
theorem at_yes {a : Int} (h : mul8 a = true) (w : World) : Calls Tryd.prog 38 #[.int .i64 a] w fun r w' => r = .returned .nilIface ∧ w = w' := by
  have h8 : a.tmod 8 = 0 := of_decide_eq_true h
  clear h
  go_enter Tryd.func38, Tryd.ntmps38
  go_wp2
  go_ret
  exact ⟨rfl, rfl⟩
theorem at_no {E : EnvH} {a : Int} (h : mul8 a = false) {w : World} (hG : GlobH E w) : Calls Tryd.prog 38 #[.int .i64 a] w fun r w' => r = .returned (.iface 107 (.pointer (some E.aAdr))) ∧ w = w' := by
  have h8 : ¬ a.tmod 8 = 0 := of_decide_eq_false h
  have k0 := hG.cAdr
  unfold ErH.val at k0
  clear h hG
  go_enter Tryd.func38, Tryd.ntmps38
  go_wp2
  go_ret
  exact ⟨rfl, rfl⟩
theorem told_okH {E : EnvH} {w : World} (h : GlobH E w) : Calls Tryd.prog 30 #[.slice (some ⟨w.heap.size, 0, none⟩) 1 1] (w.alloc (.cells #[.nilIface] 57)) fun r w' => r = .returned (.int .i64 0) ∧ w.alloc (.cells #[.nilIface] 57) = w' :=
  told_oneH h .ok 1 57
theorem told_adrH {E : EnvH} {w : World} (h : GlobH E w) : Calls Tryd.prog 30 #[.slice (some ⟨w.heap.size, 0, none⟩) 1 1] (w.alloc (.cells #[.iface 107 (.pointer (some E.aAdr))] 57)) fun r w' => r = .returned (.int .i64 10) ∧ w.alloc (.cells #[.iface 107 (.pointer (some E.aAdr))] 57) = w' :=
  told_oneH h .adr 1 57

set_option maxHeartbeats 2000000 in
set_option maxRecDepth 20000 in
theorem put_bad {E : EnvH} {w : World} (hG : GlobH E w) (p : Nat) (a : Int) {k l c e : Int} (hr : rightM k l c e = false) :
    Calls Tryd.prog 22 #[.pointer (some ⟨p, 0, none⟩), .int .i64 a, .agg #[.int .i64 k, .int .i64 l, .int .i64 c, .int .i64 e]] w fun r w' => r = .returned (.int .i64 60) ∧ Below w.heap.size w w' := by
  obtain ⟨w1, hw1, a0, -, b1⟩ := allocs1 w (.cells #[.int .i64 k, .int .i64 l, .int .i64 c, .int .i64 e] 23)
  have m1 := encode_any (hG.below a0) k l c e
  have hE : encE k l c e = 60 := by unfold encE; rw [hr]; rfl
  rw [hE] at m1
  have HG := Lib.hid (hG.below a0)
  have c0 := cells_cell (i := 0) b1 (v := .int .i64 k) rfl
  have c1 := cells_cell (i := 1) b1 (v := .int .i64 l) rfl
  have c2 := cells_cell (i := 2) b1 (v := .int .i64 c) rfl
  have c3 := cells_cell (i := 3) b1 (v := .int .i64 e) rfl
  clear hG hr hE b1
  go_enter Tryd.func22, Tryd.ntmps22
  go_wp2_with fail
  refine m1.mono ?_
  rintro r w2 ⟨rfl, hb⟩
  have T := there_some p w2
  have O := told_okH (HG.out.below hb)
  have HB := Lib.hid (blH a0 hb)
  clear m1 c0 c1 c2 c3 hb a0 hw1
  go_wp2_with fail
  refine T.mono ?_
  rintro r w' ⟨rfl, rfl⟩
  go_wp2_with fail
  refine O.mono ?_
  rintro r w' ⟨rfl, rfl⟩
  clear T O
  go_wp2
  go_ret
  exact ⟨rfl, HB.out.alloc HB.out.size _⟩

set_option maxHeartbeats 2000000 in
set_option maxRecDepth 20000 in
theorem put_off {E : EnvH} {w : World} (hG : GlobH E w) (p : Nat) {a : Int} (ha : mul8 a = false) {k l c e : Int} (hr : rightM k l c e = true) :
    Calls Tryd.prog 22 #[.pointer (some ⟨p, 0, none⟩), .int .i64 a, .agg #[.int .i64 k, .int .i64 l, .int .i64 c, .int .i64 e]] w fun r w' => r = .returned (.int .i64 10) ∧ Below w.heap.size w w' := by
  obtain ⟨w1, hw1, a0, -, b1⟩ := allocs1 w (.cells #[.int .i64 k, .int .i64 l, .int .i64 c, .int .i64 e] 23)
  have m1 := encode_any (hG.below a0) k l c e
  have hE : encE k l c e = 0 := by unfold encE; rw [hr]; rfl
  rw [hE] at m1
  have HG := Lib.hid (hG.below a0)
  have c0 := cells_cell (i := 0) b1 (v := .int .i64 k) rfl
  have c1 := cells_cell (i := 1) b1 (v := .int .i64 l) rfl
  have c2 := cells_cell (i := 2) b1 (v := .int .i64 c) rfl
  have c3 := cells_cell (i := 3) b1 (v := .int .i64 e) rfl
  clear hG hr hE b1
  go_enter Tryd.func22, Tryd.ntmps22
  go_wp2_with fail
  refine m1.mono ?_
  rintro r w2 ⟨rfl, hb⟩
  have T := there_some p w2
  have hG2 := HG.out.below hb
  have O := told_okH hG2
  have HB := Lib.hid (blH a0 hb)
  clear m1 c0 c1 c2 c3 hb a0 hw1
  go_wp2_with fail
  refine T.mono ?_
  rintro r w' ⟨rfl, rfl⟩
  go_wp2_with fail
  refine O.mono ?_
  rintro r w' ⟨rfl, rfl⟩
  have hb3 : Below w2.heap.size w2 (w2.alloc (.cells #[.nilIface] 57)) := (Below.refl _ _).alloc (Nat.le_refl _) _
  have hG3 := hG2.below hb3
  generalize w2.alloc (.cells #[.nilIface] 57) = w3 at *
  have T2 := at_no ha hG3
  have O2 := told_adrH hG3
  have HB3 := Lib.hid (blH HB.out hb3)
  clear T O hG2 hb3 hG3 HB
  go_wp2_with fail
  refine T2.mono ?_
  rintro r w' ⟨rfl, rfl⟩
  go_wp2_with fail
  refine O2.mono ?_
  rintro r w' ⟨rfl, rfl⟩
  clear T2 O2
  go_wp2
  go_ret
  exact ⟨rfl, HB3.out.alloc HB3.out.size _⟩

set_option maxHeartbeats 2000000 in
set_option maxRecDepth 20000 in
theorem put_good {E : EnvH} {EN : EnvN} {w : World} {p g n : Nat} {f : Nat → Nat} (hG : GlobH E w) (hN : GlobN EN w) (hA : ArenaV w p g n f) {a : Int} (ha : mul8 a = true) {k l c e : Int} (hr : rightM k l c e = true) :
    Calls Tryd.prog 22 #[.pointer (some ⟨p, 0, none⟩), .int .i64 a, .agg #[.int .i64 k, .int .i64 l, .int .i64 c, .int .i64 e]] w fun r w' => r = .returned (.int .i64 (chkN n a 8).code) ∧ ArenaV w' p g n (writeF n f a (encI k l c e)) ∧ w.grownBy w' (some g) := by
  obtain ⟨w1, hw1, a0, -, b1⟩ := allocs1 w (.cells #[.int .i64 k, .int .i64 l, .int .i64 c, .int .i64 e] 23)
  have m1 := encode_any (hG.below a0) k l c e
  have hE : encE k l c e = 0 := by unfold encE; rw [hr]; rfl
  have h8 : (encI k l c e).size = 8 := encI_size hr
  rw [hE] at m1
  have HG := Lib.hid (hG.below a0)
  have HN := Lib.hid hN
  have HA := Lib.hid hA
  have c0 := cells_cell (i := 0) b1 (v := .int .i64 k) rfl
  have c1 := cells_cell (i := 1) b1 (v := .int .i64 l) rfl
  have c2 := cells_cell (i := 2) b1 (v := .int .i64 c) rfl
  have c3 := cells_cell (i := 3) b1 (v := .int .i64 e) rfl
  generalize encI k l c e = s at *
  have H8 := Lib.hid h8
  clear hG hr hE b1 hN hA h8
  go_enter Tryd.func22, Tryd.ntmps22
  go_wp2_with fail
  refine m1.mono ?_
  rintro r w2 ⟨rfl, hb⟩
  have T := there_some p w2
  have hG2 := HG.out.below hb
  have O := told_okH hG2
  have HB := Lib.hid (blH a0 hb)
  clear m1 c0 c1 c2 c3 hb a0 hw1
  go_wp2_with fail
  refine T.mono ?_
  rintro r w' ⟨rfl, rfl⟩
  go_wp2_with fail
  refine O.mono ?_
  rintro r w' ⟨rfl, rfl⟩
  have hb3 : Below w2.heap.size w2 (w2.alloc (.cells #[.nilIface] 57)) := (Below.refl _ _).alloc (Nat.le_refl _) _
  have hG3 := hG2.below hb3
  generalize w2.alloc (.cells #[.nilIface] 57) = w3 at *
  have T2 := at_yes ha w3
  have O2 := told_okH hG3
  have HB3 := Lib.hid (blH HB.out hb3)
  have HG3 := Lib.hid hG3
  clear T O hG2 hb3 hG3 HB
  go_wp2_with fail
  refine T2.mono ?_
  rintro r w' ⟨rfl, rfl⟩
  go_wp2_with fail
  refine O2.mono ?_
  rintro r w' ⟨rfl, rfl⟩
  have hb4 := HB3.out.alloc HB3.out.size (.cells #[.nilIface] 57)
  generalize w3.alloc (.cells #[.nilIface] 57) = w4 at *
  have W := write_N (HN.out.below hb4) (HA.out.next hb4) a s
  rw [H8.out] at W
  have HB4 := Lib.hid hb4
  clear T2 O2 hb4 HB3 HG3
  go_wp2_with fail
  refine W.mono ?_
  rintro r w5 ⟨rfl, hA5, hg5⟩
  have HA5 := Lib.hid hA5
  have HG5 := Lib.hid (grown_trans (grown_below HB4.out (some g)) hg5)
  clear W hA5 hg5
  go_wp2
  go_ret
  exact ⟨rfl, HA5.out, HG5.out⟩

/-- What Put answers, what it leaves. -/
def putHE (n : Nat) (a k l c e : Int) : Int := bif rightM k l c e then (bif mul8 a then (chkN n a 8).code else 10) else 60
def putHF (n : Nat) (f : Nat → Nat) (a k l c e : Int) : Nat → Nat := bif rightM k l c e && mul8 a then writeF n f a (encI k l c e) else f
theorem putH_any {E : EnvH} {EN : EnvN} {w : World} {p g n : Nat} {f : Nat → Nat} (hG : GlobH E w) (hN : GlobN EN w) (hA : ArenaV w p g n f) (a k l c e : Int) :
    Calls Tryd.prog 22 #[.pointer (some ⟨p, 0, none⟩), .int .i64 a, .agg #[.int .i64 k, .int .i64 l, .int .i64 c, .int .i64 e]] w fun r w' => r = .returned (.int .i64 (putHE n a k l c e)) ∧ ArenaV w' p g n (putHF n f a k l c e) ∧ w.grownBy w' (some g) := by
  unfold putHE putHF
  cases hr : rightM k l c e with
  | false => exact (put_bad hG p a hr).mono fun r w' ⟨h1, h2⟩ => ⟨h1, hA.next h2, grown_below h2 _⟩
  | true =>
    cases ha : mul8 a with
    | false => exact (put_off hG p ha hr).mono fun r w' ⟨h1, h2⟩ => ⟨h1, hA.next h2, grown_below h2 _⟩
    | true => exact put_good hG hN hA ha hr
end Go.Proofs.YtdhligapadblgaaDoor

/- The statement AddrNext: the reference of the granule behind another one is the next one; an address no greater is in a line no greater, for any two numbers. No condition. -/
import Derived.Test.YtlfdfocjkdjhdaaDoorC1
import Derived.Test.YtlfdfocjkdjhdaaDoorCards
import Derived.Test.YtlfdfocjkdjhdaaDoorTie
import Derived.Test.YtlfdfocjkdjhdaaDoorG
namespace Go.Proofs.YtlfdfocjkdjhdaaDoor
open Go.RowKit

set_option maxRecDepth 100000 in
set_option maxHeartbeats 1000000 in
theorem next_yn10 {E : Env} {w : World} (hGl : Glob E w) (a b : Int) (s0 : 0 ≤ a) (s1 : a < 131072) (t0 : 0 ≤ b) (t1 : b < 131072) (hm : a % 8 ≠ 0) (ho : a ≤ b) :
    Calls Tryd.prog 9 #[.int .i64 a, .int .i64 b] w fun r w' => r = .returned (.bool true) ∧ Below w.heap.size w w' := by
  have hb : Below w.heap.size w w := Below.refl _ _
  have hR : rightB a = true := by simp [rightB]; omega
  have HR := Lib.hid hR
  have hQ : rightB b = true := by simp [rightB]; omega
  have HQ := Lib.hid hQ
  clear hQ
  have HM := Lib.hid (show ¬(0 ≤ a ∧ a < 131072 ∧ a % 8 = 0) by omega)
  clear hm
  have e2 : a / 128 ≤ b / 128 := by omega
  go_enter Tryd.func9, Tryd.ntmps9
  go_wp2_with fail
  refine (shown_any hGl).mono ?_
  rintro e1 w1 ⟨rfl, hb1⟩
  replace hb := hb.trans (hb1.mono hb.size)
  replace hGl := hGl.below hb1
  clear hb1
  go_wp2_with fail
  refine (ref_no hGl a HM.out).mono ?_
  rintro e2 w2 ⟨rfl, hb2⟩
  replace hb := hb.trans (hb2.mono hb.size)
  replace hGl := hGl.below hb2
  clear hb2
  go_wp2_with fail
  refine (span_yes hGl a 1 HR.out s0 s1 (by decide) (by omega)).mono ?_
  rintro e3 w3 ⟨rfl, hb3⟩
  replace hb := hb.trans (hb3.mono hb.size)
  replace hGl := hGl.below hb3
  clear hb3
  go_wp2_with fail
  refine (span_yes hGl b 1 HQ.out t0 t1 (by decide) (by omega)).mono ?_
  rintro e4 w4 ⟨rfl, hb4⟩
  replace hb := hb.trans (hb4.mono hb.size)
  replace hGl := hGl.below hb4
  clear hb4
  go_wp2_with fail
  refine (right_any a _).mono ?_
  rintro e5 w5 ⟨rfl, rfl⟩
  go_wp2
  go_ret
  exact ⟨rfl, hb⟩

set_option maxRecDepth 100000 in
set_option maxHeartbeats 1000000 in
theorem next_yn11 {E : Env} {w : World} (hGl : Glob E w) (a b : Int) (s0 : 0 ≤ a) (s1 : a < 131072) (t0 : 0 ≤ b) (t1 : b < 131072) (hm : a % 8 ≠ 0) (ho : b < a) :
    Calls Tryd.prog 9 #[.int .i64 a, .int .i64 b] w fun r w' => r = .returned (.bool true) ∧ Below w.heap.size w w' := by
  have hb : Below w.heap.size w w := Below.refl _ _
  have hR : rightB a = true := by simp [rightB]; omega
  have HR := Lib.hid hR
  have hQ : rightB b = true := by simp [rightB]; omega
  have HQ := Lib.hid hQ
  clear hQ
  have HM := Lib.hid (show ¬(0 ≤ a ∧ a < 131072 ∧ a % 8 = 0) by omega)
  clear hm
  go_enter Tryd.func9, Tryd.ntmps9
  go_wp2_with fail
  refine (shown_any hGl).mono ?_
  rintro e6 w6 ⟨rfl, hb6⟩
  replace hb := hb.trans (hb6.mono hb.size)
  replace hGl := hGl.below hb6
  clear hb6
  go_wp2_with fail
  refine (ref_no hGl a HM.out).mono ?_
  rintro e7 w7 ⟨rfl, hb7⟩
  replace hb := hb.trans (hb7.mono hb.size)
  replace hGl := hGl.below hb7
  clear hb7
  go_wp2_with fail
  refine (span_yes hGl a 1 HR.out s0 s1 (by decide) (by omega)).mono ?_
  rintro e8 w8 ⟨rfl, hb8⟩
  replace hb := hb.trans (hb8.mono hb.size)
  replace hGl := hGl.below hb8
  clear hb8
  go_wp2_with fail
  refine (span_yes hGl b 1 HQ.out t0 t1 (by decide) (by omega)).mono ?_
  rintro e9 w9 ⟨rfl, hb9⟩
  replace hb := hb.trans (hb9.mono hb.size)
  replace hGl := hGl.below hb9
  clear hb9
  go_wp2_with fail
  refine (right_any a _).mono ?_
  rintro e10 w10 ⟨rfl, rfl⟩
  go_wp2
  go_ret
  exact ⟨rfl, hb⟩

set_option maxRecDepth 100000 in
set_option maxHeartbeats 1000000 in
theorem next_yn00 {E : Env} {w : World} (hGl : Glob E w) (a b : Int) (s0 : 0 ≤ a) (s1 : a < 131072) (t : ¬(0 ≤ b ∧ b < 131072)) (hm : a % 8 ≠ 0) :
    Calls Tryd.prog 9 #[.int .i64 a, .int .i64 b] w fun r w' => r = .returned (.bool true) ∧ Below w.heap.size w w' := by
  have hb : Below w.heap.size w w := Below.refl _ _
  have hR : rightB a = true := by simp [rightB]; omega
  have HR := Lib.hid hR
  have HT := Lib.hid (show ¬(0 ≤ b ∧ b < 131072 ∧ (1 : Int) ≤ 1 ∧ 1 ≤ 131072 - b) by omega)
  clear t
  have HM := Lib.hid (show ¬(0 ≤ a ∧ a < 131072 ∧ a % 8 = 0) by omega)
  clear hm
  go_enter Tryd.func9, Tryd.ntmps9
  go_wp2_with fail
  refine (shown_any hGl).mono ?_
  rintro e11 w11 ⟨rfl, hb11⟩
  replace hb := hb.trans (hb11.mono hb.size)
  replace hGl := hGl.below hb11
  clear hb11
  go_wp2_with fail
  refine (ref_no hGl a HM.out).mono ?_
  rintro e12 w12 ⟨rfl, hb12⟩
  replace hb := hb.trans (hb12.mono hb.size)
  replace hGl := hGl.below hb12
  clear hb12
  go_wp2_with fail
  refine (span_yes hGl a 1 HR.out s0 s1 (by decide) (by omega)).mono ?_
  rintro e13 w13 ⟨rfl, hb13⟩
  replace hb := hb.trans (hb13.mono hb.size)
  replace hGl := hGl.below hb13
  clear hb13
  go_wp2_with fail
  refine (span_no hGl b 1 HT.out).mono ?_
  rintro e14 w14 ⟨rfl, hb14⟩
  replace hb := hb.trans (hb14.mono hb.size)
  replace hGl := hGl.below hb14
  clear hb14
  go_wp2_with fail
  refine (right_any a _).mono ?_
  rintro e15 w15 ⟨rfl, rfl⟩
  go_wp2
  go_ret
  exact ⟨rfl, hb⟩

set_option maxRecDepth 100000 in
set_option maxHeartbeats 1000000 in
theorem next_yl10 {E : Env} {w : World} (hGl : Glob E w) (a b : Int) (s0 : 0 ≤ a) (s1 : a < 131072) (t0 : 0 ≤ b) (t1 : b < 131072) (hm : a % 8 = 0) (hl : a < 131064) (ho : a ≤ b) :
    Calls Tryd.prog 9 #[.int .i64 a, .int .i64 b] w fun r w' => r = .returned (.bool true) ∧ Below w.heap.size w w' := by
  have hb : Below w.heap.size w w := Below.refl _ _
  have hR : rightB a = true := by simp [rightB]; omega
  have HR := Lib.hid hR
  have hQ : rightB b = true := by simp [rightB]; omega
  have HQ := Lib.hid hQ
  clear hQ
  have HM := Lib.hid hm
  have HM8 := Lib.hid (show (a + 8) % 8 = 0 by omega)
  have e1 : ((a + 8) / 8 + 1 != a / 8 + 1 + 1) = false := by simp <;> omega
  clear hm
  have l0 : 0 ≤ a + 8 := by omega
  have l1 : a + 8 < 131072 := by omega
  have e2 : a / 128 ≤ b / 128 := by omega
  go_enter Tryd.func9, Tryd.ntmps9
  go_wp2_with fail
  refine (shown_any hGl).mono ?_
  rintro e16 w16 ⟨rfl, hb16⟩
  replace hb := hb.trans (hb16.mono hb.size)
  replace hGl := hGl.below hb16
  clear hb16
  go_wp2_with fail
  refine (ref_yes hGl a s0 s1 HM.out).mono ?_
  rintro e17 w17 ⟨rfl, hb17⟩
  replace hb := hb.trans (hb17.mono hb.size)
  replace hGl := hGl.below hb17
  clear hb17
  go_wp2_with fail
  refine (ref_yes hGl _ l0 l1 HM8.out).mono ?_
  rintro e18 w18 ⟨rfl, hb18⟩
  replace hb := hb.trans (hb18.mono hb.size)
  replace hGl := hGl.below hb18
  clear hb18
  go_wp2_with fail
  refine (span_yes hGl a 1 HR.out s0 s1 (by decide) (by omega)).mono ?_
  rintro e19 w19 ⟨rfl, hb19⟩
  replace hb := hb.trans (hb19.mono hb.size)
  replace hGl := hGl.below hb19
  clear hb19
  go_wp2_with fail
  refine (span_yes hGl b 1 HQ.out t0 t1 (by decide) (by omega)).mono ?_
  rintro e20 w20 ⟨rfl, hb20⟩
  replace hb := hb.trans (hb20.mono hb.size)
  replace hGl := hGl.below hb20
  clear hb20
  go_wp2_with fail
  refine (right_any a _).mono ?_
  rintro e21 w21 ⟨rfl, rfl⟩
  go_wp2
  go_ret
  exact ⟨rfl, hb⟩

set_option maxRecDepth 100000 in
set_option maxHeartbeats 1000000 in
theorem next_yl11 {E : Env} {w : World} (hGl : Glob E w) (a b : Int) (s0 : 0 ≤ a) (s1 : a < 131072) (t0 : 0 ≤ b) (t1 : b < 131072) (hm : a % 8 = 0) (hl : a < 131064) (ho : b < a) :
    Calls Tryd.prog 9 #[.int .i64 a, .int .i64 b] w fun r w' => r = .returned (.bool true) ∧ Below w.heap.size w w' := by
  have hb : Below w.heap.size w w := Below.refl _ _
  have hR : rightB a = true := by simp [rightB]; omega
  have HR := Lib.hid hR
  have hQ : rightB b = true := by simp [rightB]; omega
  have HQ := Lib.hid hQ
  clear hQ
  have HM := Lib.hid hm
  have HM8 := Lib.hid (show (a + 8) % 8 = 0 by omega)
  have e1 : ((a + 8) / 8 + 1 != a / 8 + 1 + 1) = false := by simp <;> omega
  clear hm
  have l0 : 0 ≤ a + 8 := by omega
  have l1 : a + 8 < 131072 := by omega
  go_enter Tryd.func9, Tryd.ntmps9
  go_wp2_with fail
  refine (shown_any hGl).mono ?_
  rintro e22 w22 ⟨rfl, hb22⟩
  replace hb := hb.trans (hb22.mono hb.size)
  replace hGl := hGl.below hb22
  clear hb22
  go_wp2_with fail
  refine (ref_yes hGl a s0 s1 HM.out).mono ?_
  rintro e23 w23 ⟨rfl, hb23⟩
  replace hb := hb.trans (hb23.mono hb.size)
  replace hGl := hGl.below hb23
  clear hb23
  go_wp2_with fail
  refine (ref_yes hGl _ l0 l1 HM8.out).mono ?_
  rintro e24 w24 ⟨rfl, hb24⟩
  replace hb := hb.trans (hb24.mono hb.size)
  replace hGl := hGl.below hb24
  clear hb24
  go_wp2_with fail
  refine (span_yes hGl a 1 HR.out s0 s1 (by decide) (by omega)).mono ?_
  rintro e25 w25 ⟨rfl, hb25⟩
  replace hb := hb.trans (hb25.mono hb.size)
  replace hGl := hGl.below hb25
  clear hb25
  go_wp2_with fail
  refine (span_yes hGl b 1 HQ.out t0 t1 (by decide) (by omega)).mono ?_
  rintro e26 w26 ⟨rfl, hb26⟩
  replace hb := hb.trans (hb26.mono hb.size)
  replace hGl := hGl.below hb26
  clear hb26
  go_wp2_with fail
  refine (right_any a _).mono ?_
  rintro e27 w27 ⟨rfl, rfl⟩
  go_wp2
  go_ret
  exact ⟨rfl, hb⟩

set_option maxRecDepth 100000 in
set_option maxHeartbeats 1000000 in
theorem next_yl00 {E : Env} {w : World} (hGl : Glob E w) (a b : Int) (s0 : 0 ≤ a) (s1 : a < 131072) (t : ¬(0 ≤ b ∧ b < 131072)) (hm : a % 8 = 0) (hl : a < 131064) :
    Calls Tryd.prog 9 #[.int .i64 a, .int .i64 b] w fun r w' => r = .returned (.bool true) ∧ Below w.heap.size w w' := by
  have hb : Below w.heap.size w w := Below.refl _ _
  have hR : rightB a = true := by simp [rightB]; omega
  have HR := Lib.hid hR
  have HT := Lib.hid (show ¬(0 ≤ b ∧ b < 131072 ∧ (1 : Int) ≤ 1 ∧ 1 ≤ 131072 - b) by omega)
  clear t
  have HM := Lib.hid hm
  have HM8 := Lib.hid (show (a + 8) % 8 = 0 by omega)
  have e1 : ((a + 8) / 8 + 1 != a / 8 + 1 + 1) = false := by simp <;> omega
  clear hm
  have l0 : 0 ≤ a + 8 := by omega
  have l1 : a + 8 < 131072 := by omega
  go_enter Tryd.func9, Tryd.ntmps9
  go_wp2_with fail
  refine (shown_any hGl).mono ?_
  rintro e28 w28 ⟨rfl, hb28⟩
  replace hb := hb.trans (hb28.mono hb.size)
  replace hGl := hGl.below hb28
  clear hb28
  go_wp2_with fail
  refine (ref_yes hGl a s0 s1 HM.out).mono ?_
  rintro e29 w29 ⟨rfl, hb29⟩
  replace hb := hb.trans (hb29.mono hb.size)
  replace hGl := hGl.below hb29
  clear hb29
  go_wp2_with fail
  refine (ref_yes hGl _ l0 l1 HM8.out).mono ?_
  rintro e30 w30 ⟨rfl, hb30⟩
  replace hb := hb.trans (hb30.mono hb.size)
  replace hGl := hGl.below hb30
  clear hb30
  go_wp2_with fail
  refine (span_yes hGl a 1 HR.out s0 s1 (by decide) (by omega)).mono ?_
  rintro e31 w31 ⟨rfl, hb31⟩
  replace hb := hb.trans (hb31.mono hb.size)
  replace hGl := hGl.below hb31
  clear hb31
  go_wp2_with fail
  refine (span_no hGl b 1 HT.out).mono ?_
  rintro e32 w32 ⟨rfl, hb32⟩
  replace hb := hb.trans (hb32.mono hb.size)
  replace hGl := hGl.below hb32
  clear hb32
  go_wp2_with fail
  refine (right_any a _).mono ?_
  rintro e33 w33 ⟨rfl, rfl⟩
  go_wp2
  go_ret
  exact ⟨rfl, hb⟩

set_option maxRecDepth 100000 in
set_option maxHeartbeats 1000000 in
theorem next_yg10 {E : Env} {w : World} (hGl : Glob E w) (a b : Int) (s0 : 0 ≤ a) (s1 : a < 131072) (t0 : 0 ≤ b) (t1 : b < 131072) (hm : a % 8 = 0) (hl : ¬ a < 131064) (ho : a ≤ b) :
    Calls Tryd.prog 9 #[.int .i64 a, .int .i64 b] w fun r w' => r = .returned (.bool true) ∧ Below w.heap.size w w' := by
  have hb : Below w.heap.size w w := Below.refl _ _
  have hR : rightB a = true := by simp [rightB]; omega
  have HR := Lib.hid hR
  have hQ : rightB b = true := by simp [rightB]; omega
  have HQ := Lib.hid hQ
  clear hQ
  have HM := Lib.hid hm
  have HM8 := Lib.hid (show (a + 8) % 8 = 0 by omega)
  have e1 : ((a + 8) / 8 + 1 != a / 8 + 1 + 1) = false := by simp <;> omega
  clear hm
  have e2 : a / 128 ≤ b / 128 := by omega
  go_enter Tryd.func9, Tryd.ntmps9
  go_wp2_with fail
  refine (shown_any hGl).mono ?_
  rintro e34 w34 ⟨rfl, hb34⟩
  replace hb := hb.trans (hb34.mono hb.size)
  replace hGl := hGl.below hb34
  clear hb34
  go_wp2_with fail
  refine (ref_yes hGl a s0 s1 HM.out).mono ?_
  rintro e35 w35 ⟨rfl, hb35⟩
  replace hb := hb.trans (hb35.mono hb.size)
  replace hGl := hGl.below hb35
  clear hb35
  go_wp2_with fail
  refine (span_yes hGl a 1 HR.out s0 s1 (by decide) (by omega)).mono ?_
  rintro e36 w36 ⟨rfl, hb36⟩
  replace hb := hb.trans (hb36.mono hb.size)
  replace hGl := hGl.below hb36
  clear hb36
  go_wp2_with fail
  refine (span_yes hGl b 1 HQ.out t0 t1 (by decide) (by omega)).mono ?_
  rintro e37 w37 ⟨rfl, hb37⟩
  replace hb := hb.trans (hb37.mono hb.size)
  replace hGl := hGl.below hb37
  clear hb37
  go_wp2_with fail
  refine (right_any a _).mono ?_
  rintro e38 w38 ⟨rfl, rfl⟩
  go_wp2
  go_ret
  exact ⟨rfl, hb⟩

set_option maxRecDepth 100000 in
set_option maxHeartbeats 1000000 in
theorem next_yg11 {E : Env} {w : World} (hGl : Glob E w) (a b : Int) (s0 : 0 ≤ a) (s1 : a < 131072) (t0 : 0 ≤ b) (t1 : b < 131072) (hm : a % 8 = 0) (hl : ¬ a < 131064) (ho : b < a) :
    Calls Tryd.prog 9 #[.int .i64 a, .int .i64 b] w fun r w' => r = .returned (.bool true) ∧ Below w.heap.size w w' := by
  have hb : Below w.heap.size w w := Below.refl _ _
  have hR : rightB a = true := by simp [rightB]; omega
  have HR := Lib.hid hR
  have hQ : rightB b = true := by simp [rightB]; omega
  have HQ := Lib.hid hQ
  clear hQ
  have HM := Lib.hid hm
  have HM8 := Lib.hid (show (a + 8) % 8 = 0 by omega)
  have e1 : ((a + 8) / 8 + 1 != a / 8 + 1 + 1) = false := by simp <;> omega
  clear hm
  go_enter Tryd.func9, Tryd.ntmps9
  go_wp2_with fail
  refine (shown_any hGl).mono ?_
  rintro e39 w39 ⟨rfl, hb39⟩
  replace hb := hb.trans (hb39.mono hb.size)
  replace hGl := hGl.below hb39
  clear hb39
  go_wp2_with fail
  refine (ref_yes hGl a s0 s1 HM.out).mono ?_
  rintro e40 w40 ⟨rfl, hb40⟩
  replace hb := hb.trans (hb40.mono hb.size)
  replace hGl := hGl.below hb40
  clear hb40
  go_wp2_with fail
  refine (span_yes hGl a 1 HR.out s0 s1 (by decide) (by omega)).mono ?_
  rintro e41 w41 ⟨rfl, hb41⟩
  replace hb := hb.trans (hb41.mono hb.size)
  replace hGl := hGl.below hb41
  clear hb41
  go_wp2_with fail
  refine (span_yes hGl b 1 HQ.out t0 t1 (by decide) (by omega)).mono ?_
  rintro e42 w42 ⟨rfl, hb42⟩
  replace hb := hb.trans (hb42.mono hb.size)
  replace hGl := hGl.below hb42
  clear hb42
  go_wp2_with fail
  refine (right_any a _).mono ?_
  rintro e43 w43 ⟨rfl, rfl⟩
  go_wp2
  go_ret
  exact ⟨rfl, hb⟩

set_option maxRecDepth 100000 in
set_option maxHeartbeats 1000000 in
theorem next_yg00 {E : Env} {w : World} (hGl : Glob E w) (a b : Int) (s0 : 0 ≤ a) (s1 : a < 131072) (t : ¬(0 ≤ b ∧ b < 131072)) (hm : a % 8 = 0) (hl : ¬ a < 131064) :
    Calls Tryd.prog 9 #[.int .i64 a, .int .i64 b] w fun r w' => r = .returned (.bool true) ∧ Below w.heap.size w w' := by
  have hb : Below w.heap.size w w := Below.refl _ _
  have hR : rightB a = true := by simp [rightB]; omega
  have HR := Lib.hid hR
  have HT := Lib.hid (show ¬(0 ≤ b ∧ b < 131072 ∧ (1 : Int) ≤ 1 ∧ 1 ≤ 131072 - b) by omega)
  clear t
  have HM := Lib.hid hm
  have HM8 := Lib.hid (show (a + 8) % 8 = 0 by omega)
  have e1 : ((a + 8) / 8 + 1 != a / 8 + 1 + 1) = false := by simp <;> omega
  clear hm
  go_enter Tryd.func9, Tryd.ntmps9
  go_wp2_with fail
  refine (shown_any hGl).mono ?_
  rintro e44 w44 ⟨rfl, hb44⟩
  replace hb := hb.trans (hb44.mono hb.size)
  replace hGl := hGl.below hb44
  clear hb44
  go_wp2_with fail
  refine (ref_yes hGl a s0 s1 HM.out).mono ?_
  rintro e45 w45 ⟨rfl, hb45⟩
  replace hb := hb.trans (hb45.mono hb.size)
  replace hGl := hGl.below hb45
  clear hb45
  go_wp2_with fail
  refine (span_yes hGl a 1 HR.out s0 s1 (by decide) (by omega)).mono ?_
  rintro e46 w46 ⟨rfl, hb46⟩
  replace hb := hb.trans (hb46.mono hb.size)
  replace hGl := hGl.below hb46
  clear hb46
  go_wp2_with fail
  refine (span_no hGl b 1 HT.out).mono ?_
  rintro e47 w47 ⟨rfl, hb47⟩
  replace hb := hb.trans (hb47.mono hb.size)
  replace hGl := hGl.below hb47
  clear hb47
  go_wp2_with fail
  refine (right_any a _).mono ?_
  rintro e48 w48 ⟨rfl, rfl⟩
  go_wp2
  go_ret
  exact ⟨rfl, hb⟩

set_option maxRecDepth 100000 in
set_option maxHeartbeats 1000000 in
theorem next_n1 {E : Env} {w : World} (hGl : Glob E w) (a b : Int) (s : ¬(0 ≤ a ∧ a < 131072)) (t0 : 0 ≤ b) (t1 : b < 131072) :
    Calls Tryd.prog 9 #[.int .i64 a, .int .i64 b] w fun r w' => r = .returned (.bool true) ∧ Below w.heap.size w w' := by
  have hb : Below w.heap.size w w := Below.refl _ _
  have hR : rightB a = false := by simp [rightB]; omega
  have HS := Lib.hid (show ¬(0 ≤ a ∧ a < 131072 ∧ (1 : Int) ≤ 1 ∧ 1 ≤ 131072 - a) by omega)
  have HM := Lib.hid (show ¬(0 ≤ a ∧ a < 131072 ∧ a % 8 = 0) by omega)
  clear s
  have hQ : rightB b = true := by simp [rightB]; omega
  have HQ := Lib.hid hQ
  clear hQ
  go_enter Tryd.func9, Tryd.ntmps9
  go_wp2_with fail
  refine (shown_any hGl).mono ?_
  rintro e49 w49 ⟨rfl, hb49⟩
  replace hb := hb.trans (hb49.mono hb.size)
  replace hGl := hGl.below hb49
  clear hb49
  go_wp2_with fail
  refine (ref_no hGl a HM.out).mono ?_
  rintro e50 w50 ⟨rfl, hb50⟩
  replace hb := hb.trans (hb50.mono hb.size)
  replace hGl := hGl.below hb50
  clear hb50
  go_wp2_with fail
  refine (span_no hGl a 1 HS.out).mono ?_
  rintro e51 w51 ⟨rfl, hb51⟩
  replace hb := hb.trans (hb51.mono hb.size)
  replace hGl := hGl.below hb51
  clear hb51
  go_wp2_with fail
  refine (span_yes hGl b 1 HQ.out t0 t1 (by decide) (by omega)).mono ?_
  rintro e52 w52 ⟨rfl, hb52⟩
  replace hb := hb.trans (hb52.mono hb.size)
  replace hGl := hGl.below hb52
  clear hb52
  go_wp2_with fail
  refine (right_any a _).mono ?_
  rintro e53 w53 ⟨rfl, rfl⟩
  go_wp2
  go_ret
  exact ⟨rfl, hb⟩

set_option maxRecDepth 100000 in
set_option maxHeartbeats 1000000 in
theorem next_n0 {E : Env} {w : World} (hGl : Glob E w) (a b : Int) (s : ¬(0 ≤ a ∧ a < 131072)) (t : ¬(0 ≤ b ∧ b < 131072)) :
    Calls Tryd.prog 9 #[.int .i64 a, .int .i64 b] w fun r w' => r = .returned (.bool true) ∧ Below w.heap.size w w' := by
  have hb : Below w.heap.size w w := Below.refl _ _
  have hR : rightB a = false := by simp [rightB]; omega
  have HS := Lib.hid (show ¬(0 ≤ a ∧ a < 131072 ∧ (1 : Int) ≤ 1 ∧ 1 ≤ 131072 - a) by omega)
  have HM := Lib.hid (show ¬(0 ≤ a ∧ a < 131072 ∧ a % 8 = 0) by omega)
  clear s
  have HT := Lib.hid (show ¬(0 ≤ b ∧ b < 131072 ∧ (1 : Int) ≤ 1 ∧ 1 ≤ 131072 - b) by omega)
  clear t
  go_enter Tryd.func9, Tryd.ntmps9
  go_wp2_with fail
  refine (shown_any hGl).mono ?_
  rintro e54 w54 ⟨rfl, hb54⟩
  replace hb := hb.trans (hb54.mono hb.size)
  replace hGl := hGl.below hb54
  clear hb54
  go_wp2_with fail
  refine (ref_no hGl a HM.out).mono ?_
  rintro e55 w55 ⟨rfl, hb55⟩
  replace hb := hb.trans (hb55.mono hb.size)
  replace hGl := hGl.below hb55
  clear hb55
  go_wp2_with fail
  refine (span_no hGl a 1 HS.out).mono ?_
  rintro e56 w56 ⟨rfl, hb56⟩
  replace hb := hb.trans (hb56.mono hb.size)
  replace hGl := hGl.below hb56
  clear hb56
  go_wp2_with fail
  refine (span_no hGl b 1 HT.out).mono ?_
  rintro e57 w57 ⟨rfl, hb57⟩
  replace hb := hb.trans (hb57.mono hb.size)
  replace hGl := hGl.below hb57
  clear hb57
  go_wp2_with fail
  refine (right_any a _).mono ?_
  rintro e58 w58 ⟨rfl, rfl⟩
  go_wp2
  go_ret
  exact ⟨rfl, hb⟩

theorem next {E : Env} {w : World} (hGl : Glob E w) (a b : Int) :
    Calls Tryd.prog 9 #[.int .i64 a, .int .i64 b] w fun r w' => r = .returned (.bool true) ∧ Below w.heap.size w w' := by
  by_cases s : 0 ≤ a ∧ a < 131072
  · by_cases hm : a % 8 = 0
    · by_cases hl : a < 131064
      · by_cases t : 0 ≤ b ∧ b < 131072
        · by_cases ho : b < a
          · exact next_yl11 hGl a b s.1 s.2 t.1 t.2 hm hl ho
          · exact next_yl10 hGl a b s.1 s.2 t.1 t.2 hm hl (by omega)
        · exact next_yl00 hGl a b s.1 s.2 t hm hl
      · by_cases t : 0 ≤ b ∧ b < 131072
        · by_cases ho : b < a
          · exact next_yg11 hGl a b s.1 s.2 t.1 t.2 hm hl ho
          · exact next_yg10 hGl a b s.1 s.2 t.1 t.2 hm hl (by omega)
        · exact next_yg00 hGl a b s.1 s.2 t hm hl
    · by_cases t : 0 ≤ b ∧ b < 131072
      · by_cases ho : b < a
        · exact next_yn11 hGl a b s.1 s.2 t.1 t.2 hm ho
        · exact next_yn10 hGl a b s.1 s.2 t.1 t.2 hm (by omega)
      · exact next_yn00 hGl a b s.1 s.2 t hm
  · by_cases t : 0 ≤ b ∧ b < 131072
    · exact next_n1 hGl a b s t.1 t.2
    · exact next_n0 hGl a b s t
end Go.Proofs.YtlfdfocjkdjhdaaDoor

namespace Go.Proofs.YtlfdfocjkdjhdaaDoor.lawAddrNext
open Go.ChangeShapes Go.WideShapes Go.ChangeAt Go.RowKit
theorem told (H : Type) (enc : TypeId × Value → H) (W : World) (base : Nat) (args : Array Value) (ds gs : List (DataW H)) (before : List MemPlace)
    (hval : ∀ (j : Nat) t v, Tryd.f9.params[j]? = some t → args[j]? = some v → Value.okWide Tryd.prog W .any base t v)
    (hW : DataW.Whole enc Tryd.prog Tryd.f9.params.toList Rows.addrNextSpec.vars false W args.toList ds gs before) (hL : laidMetH Tryd.prog laidL W) :
    Calls Tryd.prog 9 args W fun e W' => ∃ v, e = .returned v ∧ Rows.addrNextSpec.post enc Tryd.prog Tryd.f9 false true false false W args v W' := by
  have hW' := hW
  obtain ⟨p, q, hA0, hV, rfl, hfz, hnd⟩ := hW
  have hA : DataW.TrodAll enc Tryd.prog W 0 (fun _ => true) true Tryd.f9.params.toList args.toList ds p := hA0
  rw [Tryd.params9] at hA hval
  obtain ⟨v0, vs0, d0, ds0, p0, q0, hargs, rfl, rfl, h0, r0⟩ := trodAll_cons hA
  obtain ⟨v1, vs1, d1, ds1, p1, q1, rfl, rfl, rfl, h1, r1⟩ := trodAll_cons r0
  obtain ⟨rfl, rfl, rfl⟩ := trodAll_nil r1
  obtain rfl : args = #[v0, v1] := by cases args; simp_all
  obtain ⟨rfl, rfl⟩ := trodVars_none hV
  obtain ⟨x0, rfl, rfl, rfl, wx0⟩ := open_int Tryd.underlying3 (hval 0 3 v0 rfl rfl) h0
  obtain ⟨x1, rfl, rfl, rfl, wx1⟩ := open_int Tryd.underlying3 (hval 1 3 v1 rfl rfl) h1
  clear hA0
  simp only [List.append_nil] at hW'
  obtain ⟨E, hGl⟩ := glob_of_laid hL
  refine (next hGl x0 x1).mono fun e W' ⟨he, hb⟩ => ?_
  subst he
  exact ⟨_, rfl, _, _, _, [], _, [], hW', trodAll_cons_mk (shut_bool Tryd.underlying4 _) trodAll_mk0, (trodAll_cons_mk (shut_int Tryd.underlying3 wx0) (trodAll_cons_mk (shut_int Tryd.underlying3 wx1) trodAll_mk0)), rfl, hb.frame _, fun h => by cases h⟩

set_option maxRecDepth 100000 in
theorem lifted (os : Os) (started : os.Started) (H : Type) (enc : TypeId × Value → H) :
    ReturnsInHanded {} Tryd.checked os 9 .any (fun w args => (Rows.addrNextSpec.pre enc Tryd.prog Tryd.f9 [] false w args ∧ laidMetH Tryd.prog laidL w) ∧ sizedMet enc Tryd.prog Tryd.f9 (OpenSpec.ofChange Rows.addrNextSpec) false w args)
      (Rows.addrNextSpec.post enc Tryd.prog Tryd.f9 false true false false) := by
  refine returnsInHanded_of_change_and (C := Tryd.checked) (X := fun w _ => laidMetH Tryd.prog laidL w) (fun _ _ _ hh h => h.of_heap hh) own started (by kernel_rfl) Tryd.func9
    (ChangeSpec.witness_shaped (enc := enc) (C := Tryd.checked) (os := os) (X := fun w _ => laidMetH Tryd.prog laidL w) false (World.doorLaid Tryd.prog 74 os) #[.int .i64 0, .int .i64 0] 8 rfl (World.shaped_of_RefB (by kernel_rfl) (by kernel_rfl)) (by kernel_rfl) (by kernel_rfl) (by kernel_rfl) (door_met os _)) ?_
  intro W base args ds gs before hval hW _ _ hL _
  exact told H enc W base args ds gs before hval hW hL

theorem said : Rows.AddrNextSaid :=
  OpenClaim.holds_of_wide 9 Tryd.f9 rfl rfl rfl rfl rfl rfl rfl ⟨rfl, rfl, rfl, rfl, rfl⟩ rfl rfl rfl rfl rfl (by kernel_rfl) Tryd.func9 (by kernel_rfl)
    (of_decide_eq_true (by kernel_rfl)) (by unfold Func.isWrapper; first | (rw [if_pos (by decide +kernel)]; kernel_rfl) | (rw [if_neg (by decide +kernel)]; exact ⟨rfl, rfl⟩))
    (fun os started H enc _ => lifted os started H enc)

theorem plain (f : FuncId) (fn : Func) (hf : Tryd.pinned.checked.prog.funcNamed "selion/selionlaw01.AddrNext" = some f) (hfn : Tryd.pinned.checked.prog.funcs[f]? = some fn) :
    true = Tryd.pinned.checked.prog.looks [] ∧ ∀ (j : Nat) t, fn.params[j]? = some t → Tryd.pinned.checked.prog.wantsStandIn t = false := by
  obtain rfl : f = 9 := Option.some.inj ((show Tryd.prog.funcNamed "selion/selionlaw01.AddrNext" = some 9 by kernel_rfl).symm.trans hf) |>.symm
  obtain rfl : fn = Tryd.f9 := (Option.some.inj (Tryd.func9.symm.trans hfn)).symm
  refine ⟨by kernel_rfl, fun j t ht => ?_⟩
  have hm : t ∈ Tryd.f9.params := Array.mem_of_getElem? ht
  rw [Tryd.params9] at hm
  have hm' : t = 3 := by simpa using hm
  subst hm'
  exact (show Tryd.prog.wantsStandIn 3 = false by kernel_rfl)

/-- THE CARD. -/
theorem card : Rows.AddrNextCardSaid :=
  Claim7.holds_tied_plain_at .later [] _ _ _ _ said (fun _ h => by cases h) (by kernel_rfl) (fun _ h => by cases h) addrNext_row_tie rfl ⟨rfl, rfl⟩ (by kernel_rfl) rfl plain (by kernel_rfl)
end Go.Proofs.YtlfdfocjkdjhdaaDoor.lawAddrNext

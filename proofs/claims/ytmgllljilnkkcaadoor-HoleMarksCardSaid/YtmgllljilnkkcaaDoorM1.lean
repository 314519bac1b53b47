/- Layer marks: which lists are tables. -/
import Derived.Test.YtmgllljilnkkcaaDoorIl
namespace Go.Proofs.YtmgllljilnkkcaaDoor
open Go Go.RowKit

def okN (n : Int) : Bool := decide (0 ≤ n) && decide (n ≤ 2)
def rightT (l : List Int) : Bool := decide (l.length = 32) && l.all okN

theorem right1_any (n : Int) (w : World) : Calls Tryd.prog 25 #[.int .i64 n] w fun e w' => e = .returned (.bool (!okN n)) ∧ w = w' := by
  by_cases h : n < 0
  · have e : okN n = false := by unfold okN; rw [Bool.eq_false_iff]; simp; omega
    rw [e]
    clear e
    go_enter Tryd.func25, Tryd.ntmps25
    go_wp2
    go_ret
    exact ⟨rfl, rfl⟩
  · have e : (!okN n) = decide (2 < n) := by unfold okN; rw [Bool.eq_iff_iff]; simp; omega
    rw [e]
    clear e
    go_enter Tryd.func25, Tryd.ntmps25
    go_wp2
    go_ret
    exact ⟨rfl, rfl⟩

theorem all_false_at {p : Int → Bool} {l : List Int} {k : Nat} (hk : k < l.length) (h : p (l.getD k 0) = false) : l.all p = false := by
  rw [List.all_eq_false]
  refine ⟨l[k], List.getElem_mem hk, ?_⟩
  rw [List.getD_eq_getElem?_getD, List.getElem?_eq_getElem hk] at h
  simpa using h
theorem all_true_of {p : Int → Bool} {l : List Int} (h : ∀ j, j < l.length → p (l.getD j 0) = true) : l.all p = true := by
  rw [List.all_eq_true]
  intro x hx
  obtain ⟨k, hk, rfl⟩ := List.getElem_of_mem hx
  have := h k hk
  rw [List.getD_eq_getElem?_getD, List.getElem?_eq_getElem hk] at this
  simpa using this

theorem indexFunc_any (b off cap : Nat) (l : List Int) (w : World) (hl : l.length ≤ cap) (hm : cap ≤ 9223372036854775807) (hc : ∀ i, i < l.length → w.cell? ⟨b, off + i, none⟩ = some (.int .i64 (l.getD i 0))) :
    Calls Tryd.prog 33 #[.slice (some ⟨b, off, none⟩) l.length cap, .func (.func 25) #[] #[]] w fun e w' => (∃ k, e = .returned (.int .i64 k) ∧ decide (0 ≤ k) = !l.all okN) ∧ w = w' := by
  go_enter Tryd.func33, Tryd.ntmps33
  go_wp2
  go_loop [8] (fun i => ∃ k : Nat, k ≤ l.length ∧ i = .int .i64 k ∧ ∀ j, j < k → okN (l.getD j 0) = true) (fun i => l.length - (intOf i).toNat)
  case atStart => exact ⟨0, Nat.zero_le _, rfl, fun j hj => by omega⟩
  case round =>
    obtain ⟨k, hk, rfl, hp⟩ := hrel
    have HP : Hid (∀ j, j < k → okN (l.getD j 0) = true) := hp
    clear hp
    by_cases hlt : k < l.length
    · have hcell := hc k hlt
      have HC := Lib.hid hc
      clear hc
      generalize he : l.getD k 0 = x at hcell
      have HE : Hid (l.getD k 0 = x) := he
      clear he
      by_cases hx : okN x = true
      · have R := right1_any x w
        rw [hx] at R
        have HX := Lib.hid hx
        clear hx
        go_wp2_with (go_at_call 25; refine R.mono ?_; rintro r w' ⟨rfl, rfl⟩)
        go_round
        case rel => exact ⟨k + 1, by omega, by go_num, fun j hj => by by_cases hjk : j = k; (subst hjk; rw [HE.out]; exact HX.out); exact HP.out j (by omega)⟩
        case measure => simp [intOf]; omega
      · have R := right1_any x w
        have hx' : okN x = false := by simpa using hx
        rw [hx'] at R
        have HX := Lib.hid hx'
        clear hx hx'
        go_wp2_with (go_at_call 25; refine R.mono ?_; rintro r w' ⟨rfl, rfl⟩)
        go_ret
        refine ⟨⟨_, rfl, ?_⟩, rfl⟩
        rw [all_false_at hlt (by rw [HE.out]; exact HX.out)]
        simp
    · clear hc
      have hle : l.length ≤ k := by omega
      go_wp2
      go_ret
      refine ⟨⟨_, rfl, ?_⟩, rfl⟩
      rw [all_true_of (fun j hj => HP.out j (by omega))]
      rfl
theorem indexFunc_empty (a : Option Addr) (cap : Nat) (f : Value) (w : World) :
    Calls Tryd.prog 33 #[.slice a 0 cap, f] w fun e w' => e = .returned (.int .i64 (-1)) ∧ w = w' := by
  go_enter Tryd.func33, Tryd.ntmps33
  go_wp2
  refine wp_loop_rounds 1 ?_
  rw [rounds_succ]
  go_wp2
  go_ret
  exact ⟨rfl, rfl⟩
theorem containsFunc_any {w : World} {v : Value} {l : List Int} (hv : IntsV w v l) :
    Calls Tryd.prog 26 #[v, .func (.func 25) #[] #[]] w fun e w' => e = .returned (.bool (!l.all okN)) ∧ w = w' := by
  cases hv with
  | some b off cap l hl hm hc =>
    have I := indexFunc_any b off cap l w hl hm hc
    generalize (!l.all okN) = r at *
    clear hc
    go_enter Tryd.func26, Tryd.ntmps26
    go_wp2_with (go_at_call 33; refine I.mono ?_; rintro e w' ⟨⟨k, rfl, hk⟩, rfl⟩)
    go_ret
    exact ⟨by rw [← hk]; rfl, rfl⟩
  | empty a cap =>
    go_enter Tryd.func26, Tryd.ntmps26
    go_wp2_with (go_at_call 33; refine (indexFunc_empty a cap _ w).mono ?_; rintro e w' ⟨rfl, rfl⟩)
    go_ret
    exact ⟨rfl, rfl⟩

theorem right_any7 {w : World} {v : Value} {l : List Int} (hv : IntsV w v l) :
    Calls Tryd.prog 15 #[v] w fun e w' => e = .returned (.bool (rightT l)) ∧ w = w' := by
  obtain ⟨a, cap, rfl⟩ := hv.slice
  have C := containsFunc_any hv
  unfold rightT
  clear hv
  generalize l.all okN = r at *
  generalize l.length = n at *
  by_cases hn : n = 32
  · subst hn
    go_enter Tryd.func15, Tryd.ntmps15
    go_wp2_with (go_at_call 26; refine C.mono ?_; rintro e w' ⟨rfl, rfl⟩)
    go_ret
    exact ⟨by simp, rfl⟩
  · have hN := Lib.hid hn
    have hn' : decide (n = 32) = false := by simpa using hn
    go_enter Tryd.func15, Tryd.ntmps15
    go_wp2
    go_ret
    exact ⟨by rw [hn']; rfl, rfl⟩

theorem mem_getD {l : List Int} {k : Nat} (hk : k < l.length) : l.getD k 0 ∈ l := by
  rw [List.getD_eq_getElem?_getD, List.getElem?_eq_getElem hk]
  exact List.getElem_mem hk
theorem not_mem_of {l : List Int} {x : Int} (h : ∀ j, j < l.length → l.getD j 0 ≠ x) : x ∉ l := by
  intro hx
  obtain ⟨k, hk, rfl⟩ := List.getElem_of_mem hx
  have := h k hk
  rw [List.getD_eq_getElem?_getD, List.getElem?_eq_getElem hk] at this
  simp at this

end Go.Proofs.YtmgllljilnkkcaaDoor

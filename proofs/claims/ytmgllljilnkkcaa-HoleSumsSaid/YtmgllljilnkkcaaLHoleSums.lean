/- HoleSums holds of every list: the law's own text walked, and the statement. -/
import Derived.Test.YtmgllljilnkkcaaQ8
import Derived.Test.YtmgllljilnkkcaaOp
import Derived.Test.YtmgllljilnkkcaaRows
namespace Go.Proofs.Ytmgllljilnkkcaa
open Go.RowKit
attribute [local go_sem ↓] Go.wp_at_zero Go.wp_at_succ

theorem lensT_cons (x : Nat × Nat) (L : List (Nat × Nat)) (n : Nat) : lensT (x :: L) n = lensT L n + (if x.2 - x.1 = n then 1 else 0) := by
  unfold lensT
  rw [List.countP_cons]
  by_cases h : x.2 - x.1 = n
  · rw [if_pos h, if_pos (by simpa using h)]; omega
  · rw [if_neg h, if_neg (by simpa using h)]; omega
theorem lensT_bd (L : List (Nat × Nat)) (n : Nat) : 0 ≤ lensT L n ∧ lensT L n ≤ L.length := by
  unfold lensT
  have := List.countP_le_length (p := fun h : Nat × Nat => h.2 - h.1 == n) (l := L)
  omega
def sumK (L : List (Nat × Nat)) : Nat → Int
  | 0 => 0
  | m + 1 => sumK L m + ((m : Int) + 1) * lensT L (m + 1)
def mostK (L : List (Nat × Nat)) : Nat → Nat
  | 0 => 0
  | m + 1 => if 0 < lensT L (m + 1) then m + 1 else mostK L m
theorem sumK_cons (x : Nat × Nat) (L : List (Nat × Nat)) (h1 : x.1 < x.2) (m : Nat) : sumK (x :: L) m = sumK L m + (if x.2 - x.1 ≤ m then ((x.2 : Int) - x.1) else 0) := by
  induction m with
  | zero => rw [if_neg (by omega)]; rfl
  | succ m ih =>
    unfold sumK
    rw [ih, lensT_cons]
    by_cases h : x.2 - x.1 = m + 1
    · rw [if_pos h, if_neg (by omega), if_pos (by omega), Int.mul_add, Int.mul_one]; omega
    · rw [if_neg h]
      simp only [Int.add_zero]
      by_cases h2 : x.2 - x.1 ≤ m
      · rw [if_pos h2, if_pos (by omega)]; omega
      · rw [if_neg h2, if_neg (by omega)]; omega
theorem fold_shift (L : List (Nat × Nat)) (n : Int) : L.foldl (fun n h => n + ((h.2 : Int) - h.1)) n = n + roomH L := by
  induction L generalizing n with
  | nil => unfold roomH; simp
  | cons x L ih =>
    unfold roomH
    rw [List.foldl_cons, List.foldl_cons, ih, ih]
    omega
theorem roomH_cons (x : Nat × Nat) (L : List (Nat × Nat)) : roomH (x :: L) = ((x.2 : Int) - x.1) + roomH L := by
  conv => lhs; unfold roomH
  rw [List.foldl_cons, fold_shift]
  omega
theorem sumK_room (L : List (Nat × Nat)) (h : ∀ x ∈ L, x.1 < x.2 ∧ x.2 < 33) : sumK L 32 = roomH L := by
  induction L with
  | nil => decide +kernel
  | cons x L ih =>
    have hx := h x (List.mem_cons_self ..)
    rw [sumK_cons x L hx.1, ih (fun y hy => h y (List.mem_cons_of_mem _ hy)), roomH_cons, if_pos (by omega)]
    omega
theorem sumK_bd (L : List (Nat × Nat)) (hL : L.length ≤ 33) (m : Nat) (hm : m ≤ 32) : 0 ≤ sumK L m ∧ sumK L m ≤ 1089 * m := by
  induction m with
  | zero => exact ⟨Int.le_refl _, Int.le_refl _⟩
  | succ m ih =>
    have h1 := ih (by omega)
    have h2 := lensT_bd L (m + 1)
    unfold sumK
    have h3 : 0 ≤ ((m : Int) + 1) * lensT L (m + 1) := Int.mul_nonneg (by omega) h2.1
    have h4 : ((m : Int) + 1) * lensT L (m + 1) ≤ 33 * 33 := Int.mul_le_mul (by omega) (by omega) h2.1 (by decide)
    omega
theorem long_fold (L : List (Nat × Nat)) (n : Int) : n ≤ L.foldl (fun n h => max n ((h.2 : Int) - h.1)) n ∧ (∀ x ∈ L, (x.2 : Int) - x.1 ≤ L.foldl (fun n h => max n ((h.2 : Int) - h.1)) n) ∧ (L.foldl (fun n h => max n ((h.2 : Int) - h.1)) n = n ∨ ∃ x ∈ L, L.foldl (fun n h => max n ((h.2 : Int) - h.1)) n = (x.2 : Int) - x.1) := by
  induction L generalizing n with
  | nil => exact ⟨Int.le_refl _, (fun x hx => by cases hx), .inl rfl⟩
  | cons y L ih =>
    obtain ⟨h1, h2, h3⟩ := ih (max n ((y.2 : Int) - y.1))
    rw [List.foldl_cons]
    refine ⟨by omega, fun x hx => ?_, ?_⟩
    · rcases List.mem_cons.1 hx with rfl | hx
      · omega
      · exact h2 x hx
    · rcases h3 with h3 | ⟨x, hx, h3⟩
      · by_cases hc : n ≤ (y.2 : Int) - y.1
        · exact .inr ⟨y, List.mem_cons_self .., by omega⟩
        · exact .inl (by omega)
      · exact .inr ⟨x, List.mem_cons_of_mem _ hx, h3⟩
theorem lensT_pos {L : List (Nat × Nat)} {n : Nat} : 0 < lensT L n ↔ ∃ x ∈ L, x.2 - x.1 = n := by
  unfold lensT
  rw [show (0 : Int) < ((List.countP (fun h => h.2 - h.1 == n) L : Nat) : Int) ↔ 0 < List.countP (fun h => h.2 - h.1 == n) L by omega, List.countP_pos_iff]
  simp
theorem mostK_facts (L : List (Nat × Nat)) (m : Nat) : mostK L m ≤ m ∧ (∀ x ∈ L, 0 < x.2 - x.1 → x.2 - x.1 ≤ m → x.2 - x.1 ≤ mostK L m) ∧ (mostK L m = 0 ∨ ∃ x ∈ L, x.2 - x.1 = mostK L m) := by
  induction m with
  | zero => exact ⟨Nat.le_refl _, fun x _ h1 h2 => by omega, .inl rfl⟩
  | succ m ih =>
    obtain ⟨h1, h2, h3⟩ := ih
    unfold mostK
    by_cases h : 0 < lensT L (m + 1)
    · rw [if_pos h]
      exact ⟨Nat.le_refl _, fun x _ _ hx => hx, .inr (lensT_pos.1 h)⟩
    · rw [if_neg h]
      refine ⟨by omega, fun x hx h4 h5 => ?_, h3⟩
      by_cases e : x.2 - x.1 = m + 1
      · exact absurd (lensT_pos.2 ⟨x, hx, e⟩) h
      · exact h2 x hx h4 (by omega)
theorem mostK_long (L : List (Nat × Nat)) (h : ∀ x ∈ L, x.1 < x.2 ∧ x.2 < 33) : (mostK L 32 : Int) = longH L := by
  obtain ⟨h1, h2, h3⟩ := mostK_facts L 32
  obtain ⟨k1, k2, k3⟩ := long_fold L 0
  change 0 ≤ longH L at k1
  change ∀ x ∈ L, (x.2 : Int) - x.1 ≤ longH L at k2
  change longH L = 0 ∨ ∃ x ∈ L, longH L = (x.2 : Int) - x.1 at k3
  have a : (mostK L 32 : Int) ≤ longH L := by
    rcases h3 with h3 | ⟨x, hx, h3⟩
    · omega
    · have := k2 x hx; have := h x hx; omega
  have b : longH L ≤ (mostK L 32 : Int) := by
    rcases k3 with k3 | ⟨x, hx, k3⟩
    · omega
    · have := h x hx; have := h2 x hx (by omega) (by omega); omega
  omega

theorem scan_sum (K : Nat → Bool) (h33 : K 32 = true) (s k n : Nat) (hs : s ≤ k) (hn : 33 - k = n) (hk : k ≤ 33) (hf : ∀ i, s ≤ i → i < k → K i = false) :
    roomH (scanH K s k) = ((k : Int) - s) + (((List.range' k n).countP fun j => !K j : Nat) : Int) := by
  induction n generalizing s k with
  | zero =>
    rw [scanH_end K s k (by omega)]
    by_cases h : s ≤ 32
    · have := hf 32 h (by omega)
      rw [h33] at this
      cases this
    · show (0 : Int) = _
      simp
      omega
  | succ n ih =>
    rw [List.range'_succ, List.countP_cons]
    cases hkk : K k with
    | false =>
      rw [scanH_free (by omega) hkk, ih s (k + 1) (by omega) (by omega) (by omega) (fun i hi hi' => by by_cases e : i = k; exact e ▸ hkk; exact hf i hi (by omega))]
      simp
      omega
    | true =>
      have h1 := ih (k + 1) (k + 1) (Nat.le_refl _) (by omega) (by omega) (fun i hi hi' => by omega)
      by_cases e : s = k
      · subst e
        rw [scanH_none (by omega) hkk, h1]
        simp
      · rw [scanH_some (by omega) hkk e, roomH_cons, h1]
        simp
theorem room_count {l : List Int} (hr : rightT l = true) : roomH (allL l) = 32 - ((linesI l).length : Int) := by
  have e : allL l = scanH (keptB l) 0 0 := by unfold allL; rw [hr]; rfl
  rw [e, scan_sum _ (keptB_32 l) 0 0 33 (Nat.le_refl _) rfl (by decide) (fun i hi hi' => by omega)]
  have h1 := List.length_eq_countP_add_countP (keptB l) (l := List.range' 0 33)
  rw [List.length_range'] at h1
  have h2 : (List.range' 0 33).countP (keptB l) = (linesI l).length + 1 := by
    rw [← List.range_eq_range', List.range_succ, List.countP_append, List.countP_singleton, keptB_32, if_pos rfl]
    congr 1
    unfold linesI
    rw [hr]
    show _ = (List.map _ (linesT l)).length
    rw [List.length_map]
    unfold linesT
    rw [List.countP_eq_length_filter]
    congr 1
    refine List.filter_congr fun j hj => ?_
    have := List.mem_range.1 hj
    rw [keptB_I l j this, keptI_right hr j this]
  have h3 : (List.range' 0 33).countP (fun j => !keptB l j) = (List.range' 0 33).countP (fun a => decide ¬keptB l a = true) := by
    congr 1
    funext j
    cases keptB l j <;> rfl
  omega

theorem fits_more {L : List (Nat × Nat)} (h : ∀ x ∈ L, x.1 < x.2 ∧ x.2 < 33) : L.find? (longB ((mostK L 32 : Nat) + 1 : Int)) = none := by
  rw [List.find?_eq_none]
  intro x hx
  obtain ⟨h1, h2, h3⟩ := mostK_facts L 32
  have := h x hx
  have := h2 x hx (by omega) (by omega)
  unfold longB
  rw [decide_eq_false (show ¬ ((mostK L 32 : Nat) : Int) + 1 ≤ (x.2 : Int) - x.1 by omega), Bool.and_false]
  simp
theorem fits_most {L : List (Nat × Nat)} (h : ∀ x ∈ L, x.1 < x.2 ∧ x.2 < 33) :
    (mostK L 32 = 0 ∧ L.find? (longB ((mostK L 32 : Nat) : Int)) = none) ∨ (0 < mostK L 32 ∧ ∃ h1 h2 : Nat, L.find? (longB ((mostK L 32 : Nat) : Int)) = some (h1, h2) ∧ (h2 : Int) - h1 = (mostK L 32 : Nat) ∧ h2 < 33) := by
  obtain ⟨h1, h2, h3⟩ := mostK_facts L 32
  rcases Nat.eq_zero_or_pos (mostK L 32) with h0 | h0
  · refine .inl ⟨h0, ?_⟩
    rw [List.find?_eq_none]
    intro x hx
    unfold longB
    rw [decide_eq_false (show ¬ (1 : Int) ≤ (mostK L 32 : Nat) by omega), Bool.false_and]
    simp
  · refine .inr ⟨h0, ?_⟩
    rcases h3 with h3 | ⟨x, hx, h3⟩
    · omega
    · cases hf : L.find? (longB ((mostK L 32 : Nat) : Int)) with
      | none =>
        have := List.find?_eq_none.1 hf x hx
        unfold longB at this
        simp only [Bool.and_eq_true, decide_eq_true_eq, not_and] at this
        have h5 := h x hx
        exact absurd (this (by omega)) (by omega)
      | some y =>
        obtain ⟨y1, y2⟩ := y
        have h4 := List.find?_some hf
        have h5 := h _ (List.mem_of_find?_eq_some hf)
        have h6 := h2 _ (List.mem_of_find?_eq_some hf)
        unfold longB at h4
        simp only [Bool.and_eq_true, decide_eq_true_eq] at h4 h5 h6
        exact ⟨y1, y2, rfl, by omega, by omega⟩

set_option maxHeartbeats 4000000 in
set_option maxRecDepth 100000 in
theorem sums_law {w : World} {v : Value} {l : List Int} (hv : IntsV w v l) :
    Calls Try.prog 5 #[v] w fun r w' => r = .returned (.bool true) ∧ Below w.heap.size w w' := by
  have hb : Below w.heap.size w w := Below.refl _ _
  generalize hl' : l.take 34 = l'
  have HL := Lib.hid hl'
  clear hl'
  go_enter Try.func5, Try.ntmps5
  go_wp2_with fail
  refine (shown_any).mono ?_
  rintro r w0 ⟨rfl, hb0⟩
  replace hv := hv.below hb0
  replace hb := hb.trans (hb0.mono hb.size)
  clear hb0
  go_wp2_with fail
  refine (cut_any hv).mono ?_
  rintro r w1 ⟨⟨vc, rfl, hc⟩, rfl⟩
  clear hv
  rw [HL.out] at hc
  have m1 := lengths_any hc
  clear HL
  go_wp2_with fail
  cases hr : rightT l' with
  | false =>
    have e1 : allE l' = 70 := by unfold allE; rw [hr]; rfl
    have e2 : lenE l' = [] := by unfold lenE; rw [hr]; rfl
    have e3 : roomE l' = 0 := by unfold roomE; rw [hr]; rfl
    have e4 : longE l' = 0 := by unfold longE; rw [hr]; rfl
    rw [e1, e2] at m1
    have E3 := Lib.hid e3
    have E4 := Lib.hid e4
    clear e1 e2 e3 e4 hr
    refine m1.mono ?_
    rintro r w2 ⟨⟨v2, rfl, h2⟩, hb2⟩
    replace hc := hc.below hb2
    replace hb := hb.trans (hb2.mono hb.size)
    obtain ⟨a2, cap2, rfl⟩ := h2.slice
    clear m1 hb2 h2
    have m1 := room_any hc
    rw [E3.out] at m1
    go_wp2_with fail
    refine (m1).mono ?_
    rintro r w3 ⟨rfl, hb3⟩
    replace hc := hc.below hb3
    replace hb := hb.trans (hb3.mono hb.size)
    clear hb3
    clear m1
    have m1 := longest_any hc
    rw [E4.out] at m1
    go_wp2_with fail
    refine (m1).mono ?_
    rintro r w4 ⟨rfl, hb4⟩
    replace hc := hc.below hb4
    replace hb := hb.trans (hb4.mono hb.size)
    clear hb4
    clear m1 hc
    go_wp2
    go_ret
    exact ⟨rfl, by first | exact hb | exact hb.drew⟩
  | true =>
    have e1 : allE l' = 0 := by unfold allE; rw [hr]; rfl
    have e2 : lenE l' = lensL (allL l') := by unfold lenE allL; rw [hr]; rfl
    have e3 : roomE l' = roomH (allL l') := by unfold roomE allL; rw [hr]; rfl
    have e4 : longE l' = longH (allL l') := by unfold longE allL; rw [hr]; rfl
    have hmem := allL_mem (l := l')
    have hcnt := room_count hr
    have hF := fun (n : Int) => fitsO_eq l' n
    have hlen := allL_len l'
    rw [e1, e2] at m1
    generalize allL l' = L at *
    have hsum := sumK_room L hmem
    have hlong := mostK_long L hmem
    have hmore := fits_more hmem
    have hmost := fits_most hmem
    have hq := (mostK_facts L 32).1
    have hz : lensT L 0 = 0 := by
      have h1 := lensT_bd L 0
      have h2 : ¬ 0 < lensT L 0 := fun h => by obtain ⟨x, hx, h3⟩ := lensT_pos.1 h; have := hmem x hx; omega
      omega
    rw [← hsum] at e3 hcnt
    rw [← hlong] at e4
    have E3 := Lib.hid e3
    have E4 := Lib.hid e4
    have HCNT := Lib.hid hcnt
    have HF := Lib.hid hF
    have HMORE := Lib.hid hmore
    have HZ := Lib.hid hz
    clear e1 e2 e3 e4 hr hmem hsum hlong hcnt hF hmore hz
    refine m1.mono ?_
    rintro r w2 ⟨⟨v2, rfl, h2⟩, hb2⟩
    replace hc := hc.below hb2
    replace hb := hb.trans (hb2.mono hb.size)
    clear m1 hb2
    have h33 : (lensL L).length = 33 := by unfold lensL; simp
    have hget : ∀ j, j < 33 → (lensL L).getD j 0 = lensT L j := fun j hj => getD_map_r8 (lensT L) 33 j hj
    generalize lensL L = C at *
    cases h2 with
    | empty a cap => cases h33
    | some b off cap C hl hm hcc =>
      have HC : Hid (∀ j, j < 33 → w2.cell? ⟨b, off + j, none⟩ = some (.int .i64 (lensT L j))) := Lib.hid fun j hj => by rw [hcc j (by omega), hget j hj]
      rw [h33] at hl ⊢
      clear hcc hget h33
      go_wp2
      go_loopw [6, 7, 8] (fun s q i W => ∃ m : Nat, m ≤ 32 ∧ i = .int .i64 ((m : Int) + 1) ∧ s = .int .i64 (sumK L m) ∧ q = .int .i64 (mostK L m : Nat) ∧ Below w2.heap.size w2 W) (fun _ _ i _ => 33 - (intOf i).toNat)
      case atStart => exact ⟨0, Nat.zero_le _, rfl, rfl, rfl, Below.refl _ _⟩
      case round =>
        obtain ⟨m, hm, rfl, rfl, rfl, hB⟩ := hrel
        by_cases hlt : m < 32
        · have c1 := (hB.cell (p := ⟨b, off + (m + 1), none⟩) (cell_lt (HC.out (m + 1) (by omega)))).trans (HC.out (m + 1) (by omega))
          have hS : sumK L (m + 1) = sumK L m + ((m : Int) + 1) * lensT L (m + 1) := rfl
          have hM : mostK L (m + 1) = if 0 < lensT L (m + 1) then m + 1 else mostK L m := rfl
          have h1 := sumK_bd L hlen m (by omega)
          have h2 := lensT_bd L (m + 1)
          have h3 : 0 ≤ ((m : Int) + 1) * lensT L (m + 1) := Int.mul_nonneg (by omega) h2.1
          have h4 : ((m : Int) + 1) * lensT L (m + 1) ≤ 33 * 33 := Int.mul_le_mul (by omega) (by omega) h2.1 (by decide)
          generalize lensT L (m + 1) = c at *
          have HS := Lib.hid hS
          have HM := Lib.hid hM
          clear hS hM hmost
          by_cases hc0 : 0 < c
          · have hg : decide (0 < c) = true := decide_eq_true hc0
            go_wp2
            go_round
            case rel => exact ⟨m + 1, by omega, by go_num, by rw [HS.out], by rw [HM.out, if_pos (by omega)]; rfl, hB⟩
            case measure => simp [intOf]; omega
          · have hg : decide (0 < c) = false := decide_eq_false (by omega)
            go_wp2
            go_round
            case rel => exact ⟨m + 1, by omega, by go_num, by rw [HS.out], by rw [HM.out, if_neg (by omega)], hB⟩
            case measure => simp [intOf]; omega
        · obtain rfl : m = 32 := by omega
          have z0 := (hB.cell (p := ⟨b, off + 0, none⟩) (cell_lt (HC.out 0 (by omega)))).trans (HC.out 0 (by omega))
          rw [HZ.out, Nat.add_zero] at z0
          replace hb := hb.trans (hB.mono hb.size)
          replace hc := hc.below hB
          rw [show (((32 : Nat) : Int) + 1) = 33 from rfl]
          have hs := (sumK_bd L hlen 32 (by omega))
          generalize sumK L 32 = s at *
          generalize mostK L 32 = q at *
          have m1 := fits_any hc (q : Int)
          rw [HF.out] at m1
          clear hB HC HZ hlt hm
          rcases hmost with ⟨h0, hf⟩ | ⟨h0, h1, h2, hf, he, hlt2⟩
          · subst h0
            rw [hf] at m1
            change Calls _ _ #[vc, .int .i64 0] _ fun r w' => r = .returned (.tuple #[.agg #[.int .i64 0, .int .i64 0], .bool false]) ∧ _ at m1
            rw [show ((0 : Nat) : Int) = 0 from rfl]
            clear hf
            go_wp2_with fail
            refine m1.mono ?_
            rintro r w3 ⟨rfl, hb3⟩
            obtain ⟨w4, hw4, e0, e1, b4⟩ := allocs1 w3 (.cells #[.int .i64 0, .int .i64 0] 30)
            replace hc := (hc.below hb3).below e0
            replace z0 := ((hb3.trans (e0.mono hb3.size)).cell (p := ⟨b, off, none⟩) (cell_lt z0)).trans z0
            replace hb := hb.trans ((hb3.trans (e0.mono hb3.size)).mono hb.size)
            have m2 := fits_any hc 1
            have hmore : L.find? (longB 1) = none := HMORE.out
            rw [HF.out, hmore] at m2
            clear hmore
            change Calls _ _ #[vc, .int .i64 1] _ fun r w' => r = .returned (.tuple #[.agg #[.int .i64 0, .int .i64 0], .bool false]) ∧ _ at m2
            have HW := Lib.hid hw4
            clear m1 hb3 e0 e1 b4 hw4
            go_wp2_with fail
            rw [HW.out]
            refine m2.mono ?_
            rintro r w5 ⟨rfl, hb5⟩
            replace hc := hc.below hb5
            replace z0 := (hb5.cell (p := ⟨b, off, none⟩) (cell_lt z0)).trans z0
            replace hb := hb.trans (hb5.mono hb.size)
            obtain ⟨w6, hw6, e0, e1, b6⟩ := allocs1 w5 (.cells #[.int .i64 0, .int .i64 0] 30)
            replace hc := hc.below e0
            replace z0 := (e0.cell (p := ⟨b, off, none⟩) (cell_lt z0)).trans z0
            replace hb := hb.trans (e0.mono hb.size)
            have m1 := room_any hc
            rw [E3.out] at m1
            have HW6 := Lib.hid hw6
            clear m2 hb5 e0 e1 b6 hw6 HW
            have z1 := z0
            rw [← HW6.out] at z1
            go_wp2_with fail
            rw [HW6.out]
            refine m1.mono ?_
            rintro r w7 ⟨rfl, hb7⟩
            replace hc := hc.below hb7
            replace hb := hb.trans (hb7.mono hb.size)
            clear m1 hb7 z0 z1 HW6
            have m1 := count_any hc
            have hln : s = 32 - ((linesI l').length : Int) := HCNT.out
            have hn0 : (0 : Int) ≤ ((linesI l').length : Int) := Int.natCast_nonneg _
            generalize ((linesI l').length : Int) = n at *
            have hn1 : n ≤ 32 := by omega
            have gn : (s == 32 - n) = true := by rw [beq_iff_eq]; exact hln
            clear hln HCNT
            go_wp2_with fail
            refine (m1).mono ?_
            rintro r w8 ⟨rfl, hb8⟩
            replace hc := hc.below hb8
            replace hb := hb.trans (hb8.mono hb.size)
            clear hb8
            clear m1
            have m1 := longest_any hc
            rw [E4.out] at m1
            change Calls _ _ _ _ fun r w' => r = .returned (.int .i64 0) ∧ _ at m1
            go_wp2_with fail
            refine (m1).mono ?_
            rintro r w9 ⟨rfl, hb9⟩
            replace hc := hc.below hb9
            replace hb := hb.trans (hb9.mono hb.size)
            clear hb9
            clear m1 hc
            go_wp2
            go_ret
            exact ⟨by simp, hb⟩
          · rw [hf] at m1
            change Calls _ _ #[vc, .int .i64 (q : Int)] _ fun r w' => r = .returned (.tuple #[.agg #[.int .i64 (h1 : Int), .int .i64 (h2 : Int)], .bool true]) ∧ _ at m1
            have g0 : decide ((0 : Int) < (q : Int)) = true := decide_eq_true (by omega)
            have g1 : decide (0 < q) = true := decide_eq_true (by omega)
            clear hf
            go_wp2_with fail
            refine m1.mono ?_
            rintro r w3 ⟨rfl, hb3⟩
            obtain ⟨w4, hw4, e0, e1, b4⟩ := allocs1 w3 (.cells #[.int .i64 (h1 : Int), .int .i64 (h2 : Int)] 30)
            replace hc := (hc.below hb3).below e0
            replace z0 := ((hb3.trans (e0.mono hb3.size)).cell (p := ⟨b, off, none⟩) (cell_lt z0)).trans z0
            replace hb := hb.trans ((hb3.trans (e0.mono hb3.size)).mono hb.size)
            have m2 := fits_any hc ((q : Int) + 1)
            rw [HF.out, HMORE.out] at m2
            change Calls _ _ #[vc, .int .i64 ((q : Int) + 1)] _ fun r w' => r = .returned (.tuple #[.agg #[.int .i64 0, .int .i64 0], .bool false]) ∧ _ at m2
            clear m1 hb3 e0 e1
            go_wp2_with fail
            refine m2.mono ?_
            rintro r w5 ⟨rfl, hb5⟩
            replace hc := hc.below hb5
            replace z0 := (hb5.cell (p := ⟨b, off, none⟩) (cell_lt z0)).trans z0
            replace hb := hb.trans (hb5.mono hb.size)
            replace b4 := (hb5.block _ (block_lt b4)).trans b4
            obtain ⟨w6, hw6, e0, e1, b6⟩ := allocs1 w5 (.cells #[.int .i64 0, .int .i64 0] 30)
            replace hc := hc.below e0
            replace z0 := (e0.cell (p := ⟨b, off, none⟩) (cell_lt z0)).trans z0
            replace hb := hb.trans (e0.mono hb.size)
            replace b4 := (e0.block _ (block_lt b4)).trans b4
            have m1 := room_any hc
            rw [E3.out] at m1
            have HW6 := Lib.hid hw6
            have z1 := z0
            rw [← HW6.out] at z1
            clear m2 hb5 e0 e1 b6 hw6 hw4
            go_wp2_with fail
            rw [HW6.out]
            refine m1.mono ?_
            rintro r w7 ⟨rfl, hb7⟩
            replace hc := hc.below hb7
            replace hb := hb.trans (hb7.mono hb.size)
            replace b4 := (hb7.block _ (block_lt b4)).trans b4
            clear m1 hb7 z0 z1 HW6
            have m1 := count_any hc
            have hln : s = 32 - ((linesI l').length : Int) := HCNT.out
            have hn0 : (0 : Int) ≤ ((linesI l').length : Int) := Int.natCast_nonneg _
            generalize ((linesI l').length : Int) = n at *
            have hn1 : n ≤ 32 := by omega
            have gn : (s == 32 - n) = true := by rw [beq_iff_eq]; exact hln
            clear hln HCNT
            go_wp2_with fail
            refine m1.mono ?_
            rintro r w8 ⟨rfl, hb8⟩
            replace hc := hc.below hb8
            replace hb := hb.trans (hb8.mono hb.size)
            replace b4 := (hb8.block _ (block_lt b4)).trans b4
            clear m1 hb8
            have m1 := longest_any hc
            rw [E4.out] at m1
            go_wp2_with fail
            refine m1.mono ?_
            rintro r w9 ⟨rfl, hb9⟩
            replace hb := hb.trans (hb9.mono hb.size)
            replace b4 := (hb9.block _ (block_lt b4)).trans b4
            have c0 := cells_cell (i := 0) b4 (v := .int .i64 (h1 : Int)) rfl
            have c1 := cells_cell (i := 1) b4 (v := .int .i64 (h2 : Int)) rfl
            clear E3 E4 HMORE HF
            have he' : (h2 : Int) - (h1 : Int) = (q : Int) := he
            clear he
            clear m1 hb9 hc
            go_wp2
            go_ret
            exact ⟨by first | (simp; done) | (simp; omega), hb⟩
end Go.Proofs.Ytmgllljilnkkcaa

namespace Go.Proofs.Ytmgllljilnkkcaa.lawHoleSums
open Go.ChangeShapes Go.WideShapes Go.ChangeAt Go.RowKit
theorem own : ownKnob Try.prog.godebug = none := by kernel_rfl
set_option maxHeartbeats 800000 in
set_option maxRecDepth 100000 in
theorem lifted (os : Os) (started : os.Started) (H : Type) (enc : TypeId × Value → H) :
    ReturnsInHanded {} Try.checked os 5 .any (Rows.holeSumsSpec.pre6 enc Try.prog Try.f5 Rows.holeSumsRow.domain false) (Rows.holeSumsSpec.post enc Try.prog Try.f5 false true false false) := by
  refine returnsInHanded_of_change_sized (C := Try.checked) own started (by kernel_rfl) Try.func5
    (ChangeSpec.witness6 (enc := enc) (C := Try.checked) false ⟨#[], #[.slice none 0 0], []⟩ 8 (by kernel_rfl) (by kernel_rfl) (by kernel_rfl) (by kernel_rfl)) ?_
  intro W base args ds gs before hval0 hW _ _ _
  have hval : ∀ (j : Nat) t v, Try.f5.params[j]? = some t → args[j]? = some v → Value.okWide Try.prog W .any base t v := hval0
  have hW' := hW
  obtain ⟨p, q, hA0, hV, rfl, _, _⟩ := hW
  have hA : DataW.TrodAll enc Try.prog W 0 (fun _ => true) true Try.f5.params.toList args.toList ds p := hA0
  rw [Try.params5] at hA hval
  obtain ⟨v0, vs0, d0, ds0, p0, q0, hargs, rfl, rfl, h0, r0⟩ := trodAll_cons hA
  obtain ⟨rfl, rfl, rfl⟩ := trodAll_nil r0
  obtain rfl : args = #[v0] := by cases args; simp_all
  obtain ⟨rfl, rfl⟩ := trodVars_none hV
  have k0 := h0
  obtain ⟨l0, i0⟩ := ints_open (hval 0 22 v0 rfl rfl) h0
  clear hA0 hval0
  simp only [List.append_nil] at hW'
  refine (sums_law i0).mono fun e W' ⟨he, hb⟩ => ?_
  subst he
  have hlt := hW'.lt
  have harg0 := Below.trod laidOut (by kernel_rfl) (of_decide_eq_true (by kernel_rfl)) k0 hb (fun y hy => by first | (cases hy; done) | (simpa using hlt y (by simp [hy])))
  exact ⟨_, rfl, _, _, _, [], _, [], hW', trodAll_cons_mk (shut_bool Try.underlying4 _) trodAll_mk0, (trodAll_cons_mk harg0 trodAll_mk0), rfl, hb.frame _, fun h => by cases h⟩

theorem said : Rows.HoleSumsSaid :=
  OpenClaim.holds_of_wide 5 Try.f5 rfl rfl rfl rfl rfl rfl rfl ⟨rfl, rfl, rfl, rfl, rfl⟩ rfl rfl rfl rfl rfl (by kernel_rfl) Try.func5 (by kernel_rfl)
    (of_decide_eq_true (by kernel_rfl)) (by unfold Func.isWrapper; first | (rw [if_pos (by decide +kernel)]; kernel_rfl) | (rw [if_neg (by decide +kernel)]; exact ⟨rfl, rfl⟩))
    (fun os started H enc _ => lifted os started H enc)
end Go.Proofs.Ytmgllljilnkkcaa.lawHoleSums

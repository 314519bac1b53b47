/- Layer head: bytes of a head of which one is another one are no head's (plain). -/
import Derived.Test.YtdhligapadblgaaDoorG6b
namespace Go.Proofs.YtdhligapadblgaaDoor

def xorAll : List Nat → Nat
  | [] => 0
  | a :: l => a ^^^ xorAll l
theorem xorAll_set (L : List Nat) (A D : Nat) (hA : A < L.length) : xorAll (L.set A (L.getD A 0 ^^^ D)) = xorAll L ^^^ D := by
  induction L generalizing A with
  | nil => exact absurd hA (Nat.not_lt_zero A)
  | cons a L ih =>
    cases A with
    | zero =>
      show (a ^^^ D) ^^^ xorAll L = (a ^^^ xorAll L) ^^^ D
      rw [Nat.xor_assoc, Nat.xor_comm D, Nat.xor_assoc]
    | succ A =>
      have := ih A (by simpa using hA)
      show a ^^^ xorAll (L.set A (L.getD A 0 ^^^ D)) = (a ^^^ xorAll L) ^^^ D
      rw [this, Nat.xor_assoc]
theorem xorAll_head (k c e l : Nat) : xorAll (headL k c e l) = 0 := by
  have h : xorAll (headL k c e l) = 181 ^^^ (k % 256 ^^^ (c % 256 ^^^ (e % 256 ^^^ (l % 256 ^^^ (l / 256 % 256 ^^^ (l / 256 / 256 % 256 ^^^ (headX k c e l ^^^ 0))))))) := rfl
  rw [h, Nat.xor_zero, show headX k c e l = 181 ^^^ (k % 256 ^^^ (c % 256 ^^^ (e % 256 ^^^ (l % 256 ^^^ (l / 256 % 256 ^^^ (l / 256 / 256 % 256)))))) by unfold headX; simp only [Nat.xor_assoc]]
  generalize k % 256 = b1
  generalize c % 256 = b2
  generalize e % 256 = b3
  generalize l % 256 = b4
  generalize l / 256 / 256 % 256 = b6
  generalize l / 256 % 256 = b5
  generalize hR : 181 ^^^ (b1 ^^^ (b2 ^^^ (b3 ^^^ (b4 ^^^ (b5 ^^^ b6))))) = R
  simp only [← Nat.xor_assoc] at hR ⊢
  rw [hR]
  exact Nat.xor_self R

/-- The bytes of a head with one turned. -/
def badU (k c e l A D : Nat) : List UInt8 := ((headL k c e l).set A ((headL k c e l).getD A 0 ^^^ D)).map UInt8.ofNat
theorem bad_dec (k c e l A D : Nat) (hA : A < 8) (hD : 1 ≤ D ∧ D ≤ 255) : decB ⟨(badU k c e l A D).toArray⟩ = false := by
  cases hb : decB ⟨(badU k c e l A D).toArray⟩ with
  | false => rfl
  | true =>
    exfalso
    unfold decB at hb
    rw [Bool.and_eq_true, Bool.and_eq_true, decide_eq_true_iff] at hb
    obtain ⟨_, hr, he⟩ := hb
    rw [decide_eq_true_iff] at he
    generalize decK ⟨(badU k c e l A D).toArray⟩ = k' at *
    generalize decL ⟨(badU k c e l A D).toArray⟩ = l' at *
    generalize decC ⟨(badU k c e l A D).toArray⟩ = c' at *
    generalize decT ⟨(badU k c e l A D).toArray⟩ = e' at *
    unfold encI at he
    rw [hr] at he
    have h1 : headU k'.toNat c'.toNat e'.toNat l'.toNat = badU k c e l A D := by
      have := congrArg (fun s : ByteArray => s.data.toList) he
      simpa [encS] using this
    have hlen : (headL k c e l).length = 8 := rfl
    have hA8 : A < (headL k c e l).length := by rw [hlen]; exact hA
    have hlt : (headL k c e l).getD A 0 < 256 := headL_lt k c e l _ (by rw [List.getD_eq_getElem?_getD, List.getElem?_eq_getElem hA8]; exact List.getElem_mem hA8)
    have hx : (headL k c e l).getD A 0 ^^^ D < 256 := xor_lt8 hlt (by omega)
    have hall : ∀ x ∈ (headL k c e l).set A ((headL k c e l).getD A 0 ^^^ D), x < 256 := by
      intro x hxm
      rcases List.mem_or_eq_of_mem_set hxm with h | h
      · exact headL_lt k c e l x h
      · rw [h]; exact hx
    have h2 : headL k'.toNat c'.toNat e'.toNat l'.toNat = (headL k c e l).set A ((headL k c e l).getD A 0 ^^^ D) := by
      have h3 := congrArg (List.map UInt8.toNat) h1
      unfold headU badU at h3
      rw [List.map_map, List.map_map] at h3
      have back : ∀ M : List Nat, (∀ x ∈ M, x < 256) → M.map (UInt8.toNat ∘ UInt8.ofNat) = M := fun M hM => by
        conv => rhs; rw [← List.map_id M]
        refine List.map_congr_left fun x hx => ?_
        have := hM x hx
        simp
        omega
      rwa [back _ (headL_lt _ _ _ _), back _ hall] at h3
    have h3 := congrArg xorAll h2
    rw [xorAll_head, xorAll_set _ _ _ hA8, xorAll_head, Nat.zero_xor] at h3
    omega

theorem bad_eq (k c e l A D : Nat) (hA : A < 8) :
    (encS k c e l).extract 0 A ++ ⟨#[UInt8.ofNat ((headL k c e l).getD A 0 ^^^ D)]⟩ ++ (encS k c e l).extract (A + 1) (encS k c e l).size = ⟨(badU k c e l A D).toArray⟩ := by
  have hs : (encS k c e l).size = 8 := rfl
  rw [hs]
  apply ByteArray.ext
  apply Array.ext'
  have hl : (headU k c e l).length = 8 := rfl
  simp only [ByteArray.data_append, ByteArray.data_extract, Array.toList_append, Array.toList_extract]
  unfold encS badU
  simp only [List.extract_eq_take_drop, Nat.sub_zero, List.drop_zero]
  rw [List.map_set, List.set_eq_take_append_cons_drop]
  rw [if_pos (show A < ((headL k c e l).map UInt8.ofNat).length from hA)]
  unfold headU
  rw [List.take_of_length_le (l := List.drop (A + 1) _) (by simp; have : (headL k c e l).length = 8 := rfl; omega)]
  simp
end Go.Proofs.YtdhligapadblgaaDoor

/- Layer arena: what the laws of made arenas share. -/
import Derived.Test.YtjoghbpekpgkpaaDoorN13
namespace Go.Proofs.YtjoghbpekpgkpaaDoor
open Go Go.RowKit Go.Shelf

theorem okN_iff {b : Int} (h : okN b = true) : ∃ k : Nat, b = k ∧ 1 ≤ k ∧ k ≤ 32 := by
  unfold okN at h
  rw [Bool.and_eq_true, decide_eq_true_iff, decide_eq_true_iff] at h
  exact ⟨b.toNat, by omega, by omega, by omega⟩
theorem readS_size (f : Nat → Nat) (a k : Nat) : (readS f a k).size = k := by
  show ((List.range k).map fun i => UInt8.ofNat (f (a + i))).toArray.size = k
  simp
theorem readS_app (f : Nat → Nat) (a k m : Nat) : readS f a k ++ readS f (a + k) m = readS f a (k + m) := by
  apply ByteArray.ext
  apply Array.ext'
  unfold readS
  simp [List.range_add, Nat.add_assoc]
theorem readS_congr {f h : Nat → Nat} {a k : Nat} (he : ∀ j, a ≤ j → j < a + k → f j = h j) : readS f a k = readS h a k := by
  unfold readS
  congr 2
  exact List.map_congr_left fun i hi => by rw [he (a + i) (by omega) (by have := List.mem_range.1 hi; omega)]
theorem chkN_code (n : Nat) (a k : Int) : (chkN n a k).code = bif inB n a k then 0 else 10 := by
  unfold chkN
  cases inB n a k <;> rfl
theorem cut_size (s : ByteArray) (k : Nat) : (s.extract 0 (min (s.size : Int) (k : Int)).toNat).size ≤ k := by
  rw [ByteArray.size_extract]
  omega
/-- An arena stays, whatever happens to another one's bytes. -/
theorem ArenaV.apart {W W' : World} {p g g' n : Nat} {f : Nat → Nat} (h : ArenaV W p g n f) (hb : W.grownBy W' (some g')) (hp : p ≠ g') (hg : g ≠ g') : ArenaV W' p g n f :=
  ⟨grown_block hb hp h.box, h.arr.same (hb.block _ h.arr.lt (fun e => hg (Option.some.inj e))), h.ne⟩
theorem put_apart {f : Nat → Nat} {a b : Nat} {S T : List Nat} (h : a + S.length ≤ b ∨ b + T.length ≤ a) : put (put f a S) b T = put (put f b T) a S := by
  funext j
  unfold put
  by_cases h1 : b ≤ j ∧ j < b + T.length
  · rw [if_pos h1, if_neg (show ¬ (a ≤ j ∧ j < a + S.length) by omega), if_pos h1]
  · rw [if_neg h1, if_neg h1]
theorem write_apart {N : Nat} {f : Nat → Nat} {a b : Int} {s t : ByteArray} (ha : 0 ≤ a) (hb : 0 ≤ b) (h : a + s.size ≤ b ∨ b + t.size ≤ a) : writeF N (writeF N f a s) b t = writeF N (writeF N f b t) a s := by
  unfold writeF
  cases inB N b t.size <;> cases inB N a s.size
  · rfl
  · rfl
  · rfl
  · simp only [cond_true]
    exact put_apart (by rw [bytesOf_len, bytesOf_len]; omega)
end Go.Proofs.YtjoghbpekpgkpaaDoor

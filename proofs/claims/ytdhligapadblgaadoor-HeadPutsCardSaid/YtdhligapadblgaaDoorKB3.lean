/- Layer head: what is put is got: plain laws; the variables of both layers. -/
import Derived.Test.YtdhligapadblgaaDoorKB2
namespace Go.Proofs.YtdhligapadblgaaDoor
open Go Go.RowKit Go.Shelf

structure EnvB where
  h : EnvH
  n : EnvN
structure GlobB (E : EnvB) (w : World) : Prop where
  h : GlobH E.h w
  n : GlobN E.n w
theorem GlobB.below {E : EnvB} {w w' : World} (h : GlobB E w) (hb : Below w.heap.size w w') : GlobB E w' := ⟨h.h.below hb, h.n.below hb⟩

theorem byte_enc (k c e l : Nat) : byteN (encS k c e l) 1 = k % 256 ∧ byteN (encS k c e l) 2 = c % 256 ∧ byteN (encS k c e l) 3 = e % 256 ∧ byteN (encS k c e l) 4 = l % 256 ∧ byteN (encS k c e l) 5 = l / 256 % 256 ∧ byteN (encS k c e l) 6 = l / 256 / 256 % 256 := by
  have h : ∀ n : Nat, (UInt8.ofNat (n % 256)).toNat = n % 256 := fun n => by simp
  exact ⟨h k, h c, h e, h l, h (l / 256), h (l / 256 / 256)⟩
theorem dec_enc {k l c e : Int} (hr : rightM k l c e = true) : decK (encI k l c e) = k ∧ decL (encI k l c e) = l ∧ decC (encI k l c e) = c ∧ decT (encI k l c e) = e := by
  obtain ⟨h1, h2, h3, h4, h5, h6, h7, h8⟩ := rightM_iff hr
  have e0 : encI k l c e = encS k.toNat c.toNat e.toNat l.toNat := by unfold encI; rw [hr]; rfl
  obtain ⟨b1, b2, b3, b4, b5, b6⟩ := byte_enc k.toNat c.toNat e.toNat l.toNat
  unfold decK decL decC decT
  rw [e0, b1, b2, b3, b4, b5, b6]
  refine ⟨by omega, by omega, by omega, by omega⟩
theorem decB_enc {k l c e : Int} (hr : rightM k l c e = true) : decB (encI k l c e) = true := by
  obtain ⟨d1, d2, d3, d4⟩ := dec_enc hr
  unfold decB
  rw [d1, d2, d3, d4, hr, encI_size hr]
  simp

theorem put_in {f : Nat → Nat} {A : Nat} {L : List Nat} {j : Nat} (h : j < L.length) : put f A L (A + j) = L.getD j 0 := by
  unfold put
  rw [if_pos (by omega), Nat.add_sub_cancel_left]
theorem readS_put (f : Nat → Nat) (A : Nat) (s : ByteArray) : readS (put f A (bytesOf s)) A s.size = s := by
  apply ByteArray.ext
  apply Array.ext'
  unfold readS
  show (List.range s.size).map (fun i => UInt8.ofNat (put f A (bytesOf s) (A + i))) = s.data.toList
  apply List.ext_getElem
  · rw [List.length_map, List.length_range]
    rfl
  · intro i h1 h2
    have hi : i < (bytesOf s).length := by rw [bytesOf_len]; simpa using h1
    rw [List.getElem_map, List.getElem_range, put_in hi, List.getD_eq_getElem?_getD, List.getElem?_eq_getElem hi]
    have e : (bytesOf s)[i]'hi = (s.data.toList[i]'h2).toNat := List.getElem_map _
    rw [Option.getD_some, e]
    simp
theorem read_put {N : Nat} {f : Nat → Nat} {a : Int} {s : ByteArray} (h8 : s.size = 8) (hin : inB N a 8 = true) : readN N (writeF N f a s) a 8 = s := by
  have h2 : inB N a s.size = true := by rw [h8]; exact hin
  have e1 : writeF N f a s = put f a.toNat (bytesOf s) := by unfold writeF; rw [h2]; rfl
  have e2 : readN N (writeF N f a s) a 8 = readS (writeF N f a s) a.toNat 8 := by unfold readN; rw [hin]; rfl
  rw [e2, e1]
  have := readS_put f a.toNat s
  rwa [h8] at this
theorem cnt_none (n : Nat) : cntP (fun _ => 0) n = 0 := by
  induction n with
  | zero => rfl
  | succ k ih => rw [cntP, ih]; rfl
theorem chk8_code (n : Nat) (a : Int) : (chkN n a 8).code = bif inB n a 8 then 0 else 10 := by
  unfold chkN
  cases inB n a 8 <;> rfl
theorem wf_i64 {n : Int} (h : (Lit.int .i64 n).wf = true) : -9223372036854775808 ≤ n ∧ n ≤ 9223372036854775807 := by
  have h1 : IntKind.i64.min = -9223372036854775808 := by decide
  have h2 : IntKind.i64.max = 9223372036854775807 := by decide
  simp only [Lit.wf, h1, h2, decide_eq_true_eq, Bool.and_eq_true] at h
  exact h
end Go.Proofs.YtdhligapadblgaaDoor

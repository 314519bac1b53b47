/- Layer arena: Read, Write, Zero. -/
import Derived.Test.YtjoghbpekpgkpaaDoorN3
namespace Go.Proofs.YtjoghbpekpgkpaaDoor
open Go Go.RowKit
attribute [local go_sem ↓] Go.wp_at_zero Go.wp_at_succ

/-- The bytes from a place on, as a string. -/
def readS (f : Nat → Nat) (a k : Nat) : ByteArray := ⟨((List.range k).map fun i => UInt8.ofNat (f (a + i))).toArray⟩
def readN (n : Nat) (f : Nat → Nat) (a k : Int) : ByteArray := bif inB n a k then readS f a.toNat k.toNat else ⟨#[]⟩
/-- The bytes of a string. -/
def bytesOf (s : ByteArray) : List Nat := s.data.toList.map UInt8.toNat
theorem bytesOf_len (s : ByteArray) : (bytesOf s).length = s.size := by unfold bytesOf; rw [List.length_map]; rfl
theorem bytesOf_lt (s : ByteArray) : ∀ x, x ∈ bytesOf s → x < 256 := by
  intro x hx
  obtain ⟨y, _, rfl⟩ := List.mem_map.1 hx
  exact UInt8.toNat_lt y
def writeF (n : Nat) (f : Nat → Nat) (a : Int) (s : ByteArray) : Nat → Nat := bif inB n a s.size then put f a.toNat (bytesOf s) else f
def zeroF (n : Nat) (f : Nat → Nat) (a k : Int) : Nat → Nat := bif inB n a k then put f a.toNat (List.replicate k.toNat 0) else f

theorem put_none (f : Nat → Nat) (o : Nat) : put f o [] = f := by
  funext j
  unfold put
  rw [if_neg (by simp)]
theorem slice_B (w : World) (g n A K : Nat) (h : A + K ≤ n) : ∃ o, (Instr.slice 48 (.slice (some ⟨g, 0, none⟩) n n) (some (.int .i64 (A : Int))) (some (.int .i64 ((A : Int) + (K : Int)))) none).run Tryd.prog w = .ok (.slice (some ⟨g, o, none⟩) K (n - A)) w ∧ (o = A ∨ K = 0) := by
  have hu : Tryd.prog.underlying 48 = some (.slice (Tryd.prog.elem 48)) := by kernel_rfl
  have he : Tryd.prog.elem 48 = 5 := by kernel_rfl
  refine ⟨if n = A then 0 else A, ?_, ?_⟩
  · rw [run_slice_lh _ _ _ _ _ hu _ _ _ _ (by omega) (by omega) (by omega), he, sizeU8]
    simp [sliced, Result.andThen, Addr.add]
    refine ⟨?_, by omega⟩
    by_cases e : n = A
    · rw [if_pos e, if_pos e]
    · rw [if_neg e, if_neg e]
      by_cases e0 : A = 0
      · rw [if_pos e0, e0]
      · rw [if_neg e0]
  · by_cases e : n = A
    · exact .inr (by omega)
    · exact .inl (if_neg e)
theorem slice_L (w : World) (g n A : Nat) (h : A ≤ n) : ∃ o, (Instr.slice 48 (.slice (some ⟨g, 0, none⟩) n n) (some (.int .i64 (A : Int))) none none).run Tryd.prog w = .ok (.slice (some ⟨g, o, none⟩) (n - A) (n - A)) w ∧ (o = A ∨ n = A) := by
  have hu : Tryd.prog.underlying 48 = some (.slice (Tryd.prog.elem 48)) := by kernel_rfl
  have he : Tryd.prog.elem 48 = 5 := by kernel_rfl
  refine ⟨if n = A then 0 else A, ?_, ?_⟩
  · rw [run_slice_l _ _ _ _ _ hu _ _ (by omega) (by omega), he, sizeU8]
    simp [sliced, Result.andThen, Addr.add]
    by_cases e : n = A
    · rw [if_pos e, if_pos e]
    · rw [if_neg e, if_neg e]
      by_cases e0 : A = 0
      · rw [if_pos e0, e0]
      · rw [if_neg e0]
  · by_cases e : n = A
    · exact .inr e
    · exact .inl (if_neg e)

theorem conv_B {w : World} {g n : Nat} {f : Nat → Nat} (hA : ArB w g 5 n f) (A K c o : Nat) (h : A + K ≤ n) (ho : o = A ∨ K = 0) : (convert 48 9 (.slice (some ⟨g, o, none⟩) K c)).run Tryd.prog w = .ok (.string (readS f A K)) w := by
  have := run_convert_bytes_back (P := Tryd.prog) w 48 9 5 ⟨g, o, none⟩ c ((List.range K).map fun i => UInt8.ofNat (f (A + i))) Tryd.underlying48 Tryd.underlying5 Tryd.underlying9 (fun j hj => by
    have hj' : j < K := by simpa using hj
    have h8 := hA.by8 (A + j)
    obtain rfl : o = A := by omega
    rw [show (⟨g, o, none⟩ : Addr).add j = ⟨g, o + j, none⟩ by simp [Addr.add], hA.cell (o + j) (by omega)]
    congr 2
    simp
    omega)
  simpa [readS] using this

set_option maxHeartbeats 1000000 in
set_option maxRecDepth 20000 in
theorem read_N {E : EnvN} {w : World} {p g n : Nat} {f : Nat → Nat} (hG : GlobN E w) (hA : ArenaV w p g n f) (a k : Int) :
    Calls Tryd.prog 21 #[.pointer (some ⟨p, 0, none⟩), .int .i64 a, .int .i64 k] w fun r w' => r = .returned (.tuple #[.string (readN n f a k), .int .i64 (chkN n a k).code]) ∧ w = w' := by
  have C := check_N hG hA a k
  have T := told_N hG (chkN n a k)
  have c0 := hA.cell
  unfold readN
  cases h : inB n a k with
  | true =>
    have e : chkN n a k = .ok := by unfold chkN; rw [h]; rfl
    rw [e] at C ⊢
    obtain ⟨h1, h2, h3, h4⟩ := inB_iff.1 h
    obtain ⟨A, rfl⟩ : ∃ A : Nat, a = A := ⟨a.toNat, by omega⟩
    obtain ⟨K, rfl⟩ : ∃ K : Nat, k = K := ⟨k.toNat, by omega⟩
    have hAK : A + K ≤ n := by omega
    have hmx := hA.arr.mx
    have wv : IntKind.i64.wrap ((A : Int) + K) = (A : Int) + K := IntWalk.i64_in _ (by omega)
    obtain ⟨o, hsl, ho⟩ := slice_B w g n A K hAK
    have hcv := conv_B hA.arr A K (n - A) o hAK ho
    rw [Int.toNat_natCast, Int.toNat_natCast]
    clear T hG hA h h1 h2 h3 h4 e hAK hmx ho
    go_enter Tryd.func21, Tryd.ntmps21
    go_wp2_with fail
    refine C.mono ?_
    rintro r w' ⟨rfl, rfl⟩
    unfold ErN.val
    go_wp2
    exact bodyPost_ret (results_tmp2 rfl _ _ _) rfl ⟨rfl, rfl⟩
  | false =>
    have e : chkN n a k = .adr := by unfold chkN; rw [h]; rfl
    rw [e] at C T ⊢
    clear hG hA h e c0
    go_enter Tryd.func21, Tryd.ntmps21
    go_wp2_with fail
    refine C.mono ?_
    rintro r w' ⟨rfl, rfl⟩
    unfold ErN.val at T ⊢
    go_wp2_with fail
    refine T.mono ?_
    rintro r w' ⟨rfl, rfl⟩
    go_wp2
    exact bodyPost_ret (results_tmp2 rfl _ _ _) rfl ⟨rfl, rfl⟩

set_option maxHeartbeats 1000000 in
set_option maxRecDepth 20000 in
theorem write_N {E : EnvN} {w : World} {p g n : Nat} {f : Nat → Nat} (hG : GlobN E w) (hA : ArenaV w p g n f) (a : Int) (s : ByteArray) :
    Calls Tryd.prog 24 #[.pointer (some ⟨p, 0, none⟩), .int .i64 a, .string s] w fun r w' => r = .returned (.int .i64 (chkN n a s.size).code) ∧ ArenaV w' p g n (writeF n f a s) ∧ w.grownBy w' (some g) := by
  have C := check_N hG hA a s.size
  have T := told_N hG (chkN n a s.size)
  have c0 := hA.cell
  have HA := Lib.hid hA
  unfold writeF
  cases h : inB n a s.size with
  | true =>
    have e : chkN n a s.size = .ok := by unfold chkN; rw [h]; rfl
    rw [e] at C ⊢
    obtain ⟨h1, h2, h3, h4⟩ := inB_iff.1 h
    obtain ⟨A, rfl⟩ : ∃ A : Nat, a = A := ⟨a.toNat, by omega⟩
    have hAK : A + s.size ≤ n := by omega
    obtain ⟨o, hsl, ho⟩ := slice_L w g n A (by omega)
    have hS := hA.arr.sets A (bytesOf s) (bytesOf_lt s) (by rw [bytesOf_len]; exact hAK)
    have hL : (s.data.toList.map fun x => Value.int .u8 (x.toNat : Int)) = (bytesOf s).map fun x : Nat => Value.int .u8 (x : Int) := by unfold bytesOf; rw [List.map_map]; rfl
    rw [Int.toNat_natCast]
    have hcp : ∃ W, (∀ ty, (Builtin.copy_ #[48, 9] ty #[.slice (some ⟨g, o, none⟩) (n - A) (n - A), .string s]).run Tryd.prog w = .ok (goInt s.size) W) ∧ ArenaV W p g n (put f A (bytesOf s)) ∧ w.grownBy W (some g) := by
      have hc0 := fun ty => Go.run_copy_string (P := Tryd.prog) w 48 9 ty 5 g o (n - A) (n - A) s Tryd.underlying48 sizeU8 (by omega) (fun j hj => by rw [hA.arr.cell (o + j) (by omega)]; rfl) (fun j _ => hA.arr.free _)
      refine ⟨_, hc0, ?_, grown_cells _ _ _ _⟩
      rw [hL]
      rcases ho with rfl | rfl
      · exact hA.put (grown_cells g _ o w) hS
      · have h0 : bytesOf s = [] := List.length_eq_zero_iff.1 (by rw [bytesOf_len]; omega)
        rw [h0]
        exact hA.congr fun j => by rw [put_none]
    obtain ⟨W, hcp, hF, hW⟩ := hcp
    have HF := Lib.hid hF
    have HG := Lib.hid hW
    clear T hG hA h h1 h2 h3 h4 e hAK hS hL hW hF HA ho
    go_enter Tryd.func24, Tryd.ntmps24
    go_wp2_with fail
    refine C.mono ?_
    rintro r w' ⟨rfl, rfl⟩
    unfold ErN.val
    go_wp2
    go_ret
    exact ⟨rfl, HF.out, HG.out⟩
  | false =>
    have e : chkN n a s.size = .adr := by unfold chkN; rw [h]; rfl
    rw [e] at C T ⊢
    clear hG hA h e c0
    go_enter Tryd.func24, Tryd.ntmps24
    go_wp2_with fail
    refine C.mono ?_
    rintro r w' ⟨rfl, rfl⟩
    unfold ErN.val at T ⊢
    go_wp2_with fail
    refine T.mono ?_
    rintro r w' ⟨rfl, rfl⟩
    go_wp2
    go_ret
    exact ⟨rfl, HA.out, grown_refl _ _⟩

theorem zeroU8 (w : World) : (zeroValue 5).run Tryd.prog w = .ok (.int .u8 0) w := by kernel_rfl
set_option maxHeartbeats 1000000 in
set_option maxRecDepth 20000 in
theorem zero_N {E : EnvN} {w : World} {p g n : Nat} {f : Nat → Nat} (hG : GlobN E w) (hA : ArenaV w p g n f) (a k : Int) :
    Calls Tryd.prog 18 #[.pointer (some ⟨p, 0, none⟩), .int .i64 a, .int .i64 k] w fun r w' => r = .returned (.int .i64 (chkN n a k).code) ∧ ArenaV w' p g n (zeroF n f a k) ∧ w.grownBy w' (some g) := by
  have C := check_N hG hA a k
  have T := told_N hG (chkN n a k)
  have c0 := hA.cell
  have HA := Lib.hid hA
  unfold zeroF
  cases h : inB n a k with
  | true =>
    have e : chkN n a k = .ok := by unfold chkN; rw [h]; rfl
    rw [e] at C ⊢
    obtain ⟨h1, h2, h3, h4⟩ := inB_iff.1 h
    obtain ⟨A, rfl⟩ : ∃ A : Nat, a = A := ⟨a.toNat, by omega⟩
    obtain ⟨K, rfl⟩ : ∃ K : Nat, k = K := ⟨k.toNat, by omega⟩
    have hAK : A + K ≤ n := by omega
    have hmx := hA.arr.mx
    have wv : IntKind.i64.wrap ((A : Int) + K) = (A : Int) + K := IntWalk.i64_in _ (by omega)
    obtain ⟨o, hsl, ho⟩ := slice_B w g n A K hAK
    rw [Int.toNat_natCast, Int.toNat_natCast]
    have hcl : ∃ W, (∀ ty, (Builtin.clear_ #[48] ty #[.slice (some ⟨g, o, none⟩) K (n - A)]).run Tryd.prog w = .ok (.tuple #[]) W) ∧ ArenaV W p g n (put f A (List.replicate K 0)) ∧ w.grownBy W (some g) := by
      rcases Nat.eq_zero_or_pos K with rfl | hK
      · exact ⟨w, fun ty => by simp [Builtin.clear_, run_underlying Tryd.underlying48], hA.congr fun j => by rw [show List.replicate 0 0 = ([] : List Nat) from rfl, put_none], grown_refl _ _⟩
      · obtain rfl : o = A := by omega
        have hS := hA.arr.sets o (List.replicate K 0) (fun x hx => by rw [List.eq_of_mem_replicate hx]; decide) (by rw [List.length_replicate]; exact hAK)
        have hL : ((List.replicate K 0).map fun x : Nat => Value.int .u8 (x : Int)) = List.replicate K (.int .u8 0) := by rw [List.map_replicate]; rfl
        rw [hL] at hS
        exact ⟨_, fun ty => Lib.run_clear_slice (P := Tryd.prog) w 48 5 ty (.int .u8 0) Tryd.underlying48 zeroU8 rfl rfl g o K (n - o) hK (fun j hj => by rw [hA.arr.cell (o + j) (by omega)]; rfl) (fun j _ => hA.arr.free _), hA.put (grown_cells g _ o w) hS, grown_cells _ _ _ _⟩
    obtain ⟨W, hcl, hF, hW⟩ := hcl
    have HF := Lib.hid hF
    have HW := Lib.hid hW
    clear T hG hA h h1 h2 h3 h4 e hAK hmx hF hW HA ho
    go_enter Tryd.func18, Tryd.ntmps18
    go_wp2_with fail
    refine C.mono ?_
    rintro r w' ⟨rfl, rfl⟩
    unfold ErN.val
    go_wp2
    go_ret
    exact ⟨rfl, HF.out, HW.out⟩
  | false =>
    have e : chkN n a k = .adr := by unfold chkN; rw [h]; rfl
    rw [e] at C T ⊢
    clear hG hA h e c0
    go_enter Tryd.func18, Tryd.ntmps18
    go_wp2_with fail
    refine C.mono ?_
    rintro r w' ⟨rfl, rfl⟩
    unfold ErN.val at T ⊢
    go_wp2_with fail
    refine T.mono ?_
    rintro r w' ⟨rfl, rfl⟩
    go_wp2
    go_ret
    exact ⟨rfl, HA.out, grown_refl _ _⟩
end Go.Proofs.YtjoghbpekpgkpaaDoor

/- Layer arena: calls that came in, their words in range. -/
import Derived.Test.YtjoghbpekpgkpaaDoorN11
namespace Go.Proofs.YtjoghbpekpgkpaaDoor
open Go Go.ChangeShapes Go.WideShapes Go.ChangeAt Go.RowKit Go.Deep

set_option maxRecDepth 100000 in
set_option linter.constructorNameAsVariable false in
theorem op_trodV {H : Type} {enc : TypeId × Value → H} {W : World} {fuel : Nat} {x : DataW H × List MemPlace} {a : Addr} {cs : List Value}
    (hc : W.cells? 0 a 5 = some cs) (h : DataW.trod enc Tryd.prog W 0 (fun _ => true) true fuel 44 cs = some x) :
    ∃ y : XOp, W.cell? (a.add 0) = some (.int .i64 y.kind) ∧ W.cell? (a.add 1) = some (.int .i64 y.pl) ∧ W.cell? (a.add 2) = some (.int .i64 y.num) ∧ W.cell? (a.add 3) = some (.int .u32 (y.v : Int)) ∧ W.cell? (a.add 4) = some (.string y.s) ∧ y.v < 4294967296 := by
  obtain ⟨_, hlen, hcell⟩ := World.cells?_some hc
  obtain ⟨xs, k, _, _, _, hxl, hf⟩ := DataW.trod_struct Tryd.underlying44 h
  match xs, hxl, cs, hlen with
  | [y0, y1, y2, y3, y4], _, [v0, v1, v2, v3, v4], _ =>
    have g0 := hf 0 _ rfl
    have g1 := hf 1 _ rfl
    have g2 := hf 2 _ rfl
    have g3 := hf 3 _ rfl
    have g4 := hf 4 _ rfl
    simp [intCellsN, u32CellsN, strCells] at g0 g1 g2 g3 g4
    obtain ⟨n0, e0, _, _⟩ := DataW.trod_int Tryd.underlying3 g0
    obtain ⟨n1, e1, _, _⟩ := DataW.trod_int Tryd.underlying3 g1
    obtain ⟨n2, e2, _, _⟩ := DataW.trod_int Tryd.underlying3 g2
    obtain ⟨n3, e3, _, w3⟩ := DataW.trod_int Tryd.underlying27 g3
    obtain ⟨s, e4, _⟩ := DataW.trod_string Tryd.underlying9 g4
    simp at e0 e1 e2 e3 e4
    subst e0 e1 e2 e3 e4
    have h1 : IntKind.u32.min = 0 := by decide
    have h2 : IntKind.u32.max = 4294967295 := by decide
    simp only [Lit.wf, h1, h2, decide_eq_true_eq, Bool.and_eq_true] at w3
    have t0 := hcell 0 (by decide)
    have t1 := hcell 1 (by decide)
    have t2 := hcell 2 (by decide)
    have t3 := hcell 3 (by decide)
    have t4 := hcell 4 (by decide)
    refine ⟨⟨n0, n1, n2, n3.toNat, s⟩, by simpa using t0, by simpa using t1, by simpa using t2, ?_, by simpa using t4, by show n3.toNat < 4294967296; omega⟩
    show W.cell? (a.add 3) = some (.int .u32 ((n3.toNat : Nat) : Int))
    rw [Int.toNat_of_nonneg w3.1]
    simpa using t3

set_option maxRecDepth 100000 in
set_option linter.constructorNameAsVariable false in
theorem ops_openV {H : Type} {enc : TypeId × Value → H} {W : World} {base : Nat} {v : Value} {d : DataW H} {ps : List MemPlace} (hok : Value.okWide Tryd.prog W .any base 34 v)
    (h : DataW.Trod enc Tryd.prog W 0 (fun _ => true) true 34 v d ps) : ∃ l, OpsV W v l ∧ ∀ i, i < l.length → (l.getD i op0).v < 4294967296 := by
  obtain ⟨fuel, hf⟩ := h
  obtain ⟨a', n', c', rfl⟩ := okWide_slice Tryd.underlying34 hok
  rcases open_slice Tryd.underlying34 hf with ⟨hcs, _⟩ | ⟨a, len, cap, m, n, D, Pl, hcs, _, hl, hm, hmm, _, hx⟩
  · simp [Value.cells] at hcs
    obtain ⟨rfl, rfl, rfl⟩ := hcs
    exact ⟨[], .empty none 0, fun i hi => by simp at hi⟩
  · simp [Value.cells] at hcs
    obtain ⟨rfl, rfl, rfl⟩ := hcs
    simp only [if_true] at hmm
    subst hmm
    by_cases h0 : n' = 0
    · subst h0
      exact ⟨[], .empty _ _, fun i hi => by simp at hi⟩
    rw [opCells] at hx
    have each : ∀ i, i < n' → ∃ y : XOp, W.cell? ((a.add (i * 5)).add 0) = some (.int .i64 y.kind) ∧ W.cell? ((a.add (i * 5)).add 1) = some (.int .i64 y.pl) ∧ W.cell? ((a.add (i * 5)).add 2) = some (.int .i64 y.num) ∧ W.cell? ((a.add (i * 5)).add 3) = some (.int .u32 (y.v : Int)) ∧ W.cell? ((a.add (i * 5)).add 4) = some (.string y.s) ∧ y.v < 4294967296 := by
      intro i hi
      obtain ⟨cs', h1, h2⟩ := hx i (by omega)
      exact op_trodV h1 h2
    have each2 : ∀ i, ∃ y : XOp, i < n' → W.cell? ((a.add (i * 5)).add 0) = some (.int .i64 y.kind) ∧ W.cell? ((a.add (i * 5)).add 1) = some (.int .i64 y.pl) ∧ W.cell? ((a.add (i * 5)).add 2) = some (.int .i64 y.num) ∧ W.cell? ((a.add (i * 5)).add 3) = some (.int .u32 (y.v : Int)) ∧ W.cell? ((a.add (i * 5)).add 4) = some (.string y.s) ∧ y.v < 4294967296 := by
      intro i
      by_cases hi : i < n'
      · obtain ⟨y, hy⟩ := each i hi
        exact ⟨y, fun _ => hy⟩
      · exact ⟨op0, fun h => absurd h hi⟩
    obtain ⟨q, hq⟩ := Classical.skolem.1 each2
    obtain ⟨b, off, spot⟩ := a
    have hsp : spot = none := by simpa [Addr.add] using World.cell?_spot (hq 0 (by omega)).1
    subst hsp
    have hadd : ∀ i j, ((⟨b, off, none⟩ : Addr).add (i * 5)).add j = ⟨b, off + i * 5 + j, none⟩ := fun i j => by rw [add_plain, add_plain]
    have hlen : ((List.range n').map q).length = n' := by simp
    have e := OpsV.some (W := W) b off m ((List.range n').map q) (by rw [hlen]; exact hl) (by unfold maxLen at hm; omega) (fun i hi => by
      rw [hlen] at hi
      have hg : ((List.range n').map q).getD i op0 = q i := by simp [List.getD, hi]
      obtain ⟨k0, k1, k2, k3, k4, -⟩ := hq i hi
      rw [hadd] at k0 k1 k2 k3 k4
      rw [hg]
      exact ⟨k0, k1, k2, k3, k4⟩)
    rw [hlen] at e
    refine ⟨_, e, fun i hi => ?_⟩
    rw [hlen] at hi
    rw [show ((List.range n').map q).getD i op0 = q i by simp [List.getD, hi]]
    exact (hq i hi).2.2.2.2.2


theorem cutO_v {l : List XOp} (h : ∀ i, i < l.length → (l.getD i op0).v < 4294967296) : ∀ i, i < (cutO l).length → ((cutO l).getD i op0).v < 4294967296 ∧ ((cutO l).getD i op0).s.size ≤ 1000000 := by
  intro i hi
  have hi2 : i < l.length ∧ i < 20 := by simp [cutO] at hi; omega
  have e : (cutO l).getD i op0 = cutX (l.getD i op0) := by
    rw [List.getD_eq_getElem?_getD, List.getD_eq_getElem?_getD, List.getElem?_eq_getElem hi, List.getElem?_eq_getElem hi2.1]
    simp [cutO]
  rw [e]
  refine ⟨h i hi2.1, ?_⟩
  show (cutB (l.getD i op0).s 200).size ≤ 1000000
  unfold cutB
  rw [ByteArray.size_extract]
  omega
end Go.Proofs.YtjoghbpekpgkpaaDoor

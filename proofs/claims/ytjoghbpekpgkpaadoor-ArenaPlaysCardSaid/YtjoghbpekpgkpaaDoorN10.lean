/- Layer arena: calls (a list of what a law plays). -/
import Derived.Test.YtjoghbpekpgkpaaDoorNG
import Derived.Test.YtjoghbpekpgkpaaDoorN9
import Derived.Deep.SlicePairs
import Derived.ChangeMaps5
namespace Go.Proofs.YtjoghbpekpgkpaaDoor
open Go Go.ChangeShapes Go.WideShapes Go.ChangeAt Go.RowKit Go.Deep

/-- A call. -/
structure XOp where
  kind : Int
  pl : Int
  num : Int
  v : Nat
  s : ByteArray
def op0 : XOp := ⟨0, 0, 0, 0, ⟨#[]⟩⟩
def XOp.val (x : XOp) : Value := .agg #[.int .i64 x.kind, .int .i64 x.pl, .int .i64 x.num, .int .u32 (x.v : Int), .string x.s]
/-- Its five cells. -/
structure OpAt (W : World) (b o : Nat) (x : XOp) : Prop where
  c0 : W.cell? ⟨b, o, none⟩ = some (.int .i64 x.kind)
  c1 : W.cell? ⟨b, o + 1, none⟩ = some (.int .i64 x.pl)
  c2 : W.cell? ⟨b, o + 2, none⟩ = some (.int .i64 x.num)
  c3 : W.cell? ⟨b, o + 3, none⟩ = some (.int .u32 (x.v : Int))
  c4 : W.cell? ⟨b, o + 4, none⟩ = some (.string x.s)
theorem OpAt.below {W W' : World} {b o : Nat} {x : XOp} (h : OpAt W b o x) (hb : Below W.heap.size W W') : OpAt W' b o x :=
  ⟨(hb.cell (p := ⟨b, o, none⟩) (cell_lt h.c0)).trans h.c0, (hb.cell (p := ⟨b, o + 1, none⟩) (cell_lt h.c1)).trans h.c1, (hb.cell (p := ⟨b, o + 2, none⟩) (cell_lt h.c2)).trans h.c2, (hb.cell (p := ⟨b, o + 3, none⟩) (cell_lt h.c3)).trans h.c3, (hb.cell (p := ⟨b, o + 4, none⟩) (cell_lt h.c4)).trans h.c4⟩
theorem OpAt.same {W W' : World} {b o : Nat} {x : XOp} (h : OpAt W b o x) (he : W'.heap[b]? = W.heap[b]?) : OpAt W' b o x := by
  have k : ∀ {o : Nat} {v : Value}, W.cell? ⟨b, o, none⟩ = some v → W'.cell? ⟨b, o, none⟩ = some v := fun {o v} hc => by
    unfold World.cell? at hc ⊢
    rw [he]
    exact hc
  exact ⟨k h.c0, k h.c1, k h.c2, k h.c3, k h.c4⟩
/-- A slice that holds calls. -/
inductive OpsV (W : World) : Value → List XOp → Prop where
  | empty (a : Option Addr) (cap : Nat) : OpsV W (.slice a 0 cap) []
  | some (b off cap : Nat) (l : List XOp) (hl : l.length ≤ cap) (hm : cap ≤ 9223372036854775807) (hc : ∀ i, i < l.length → OpAt W b (off + i * 5) (l.getD i op0)) : OpsV W (.slice (Option.some ⟨b, off, none⟩) l.length cap) l
theorem OpsV.below {W W' : World} {v : Value} {l : List XOp} (h : OpsV W v l) (hb : Below W.heap.size W W') : OpsV W' v l := by
  cases h with
  | empty a cap => exact .empty a cap
  | some b off cap l hl hm hc => exact .some b off cap l hl hm fun i hi => (hc i hi).below hb

theorem opCells : Tryd.prog.cellsOf 44 = 5 := by kernel_rfl
theorem intCellsN : Tryd.prog.cellsOf 3 = 1 := by kernel_rfl
theorem u32CellsN : Tryd.prog.cellsOf 27 = 1 := by kernel_rfl

set_option maxRecDepth 100000 in
set_option linter.constructorNameAsVariable false in
theorem op_trod {H : Type} {enc : TypeId × Value → H} {W : World} {fuel : Nat} {x : DataW H × List MemPlace} {a : Addr} {cs : List Value}
    (hc : W.cells? 0 a 5 = some cs) (h : DataW.trod enc Tryd.prog W 0 (fun _ => true) true fuel 44 cs = some x) :
    ∃ y : XOp, W.cell? (a.add 0) = some (.int .i64 y.kind) ∧ W.cell? (a.add 1) = some (.int .i64 y.pl) ∧ W.cell? (a.add 2) = some (.int .i64 y.num) ∧ W.cell? (a.add 3) = some (.int .u32 (y.v : Int)) ∧ W.cell? (a.add 4) = some (.string y.s) := by
  obtain ⟨_, hlen, hcell⟩ := World.cells?_some hc
  obtain ⟨xs, k, _, _, _, hxl, hf⟩ := DataW.trod_struct Tryd.underlying44 h
  match xs, hxl, cs, hlen with
  | [y0, y1, y2, y3, y4], _, [v0, v1, v2, v3, v4], _ =>
    have g0 := hf 0 _ rfl
    have g1 := hf 1 _ rfl
    have g2 := hf 2 _ rfl
    have g3 := hf 3 _ rfl
    have g4 := hf 4 _ rfl
    simp [intCellsN, u32CellsN, strCells] at g0 g1 g2 g3 g4
    obtain ⟨n0, e0, _, _⟩ := DataW.trod_int Tryd.underlying3 g0
    obtain ⟨n1, e1, _, _⟩ := DataW.trod_int Tryd.underlying3 g1
    obtain ⟨n2, e2, _, _⟩ := DataW.trod_int Tryd.underlying3 g2
    obtain ⟨n3, e3, _, w3⟩ := DataW.trod_int Tryd.underlying27 g3
    obtain ⟨s, e4, _⟩ := DataW.trod_string Tryd.underlying9 g4
    simp at e0 e1 e2 e3 e4
    subst e0 e1 e2 e3 e4
    have h1 : IntKind.u32.min = 0 := by decide
    simp only [Lit.wf, h1, decide_eq_true_eq, Bool.and_eq_true] at w3
    have t0 := hcell 0 (by decide)
    have t1 := hcell 1 (by decide)
    have t2 := hcell 2 (by decide)
    have t3 := hcell 3 (by decide)
    have t4 := hcell 4 (by decide)
    refine ⟨⟨n0, n1, n2, n3.toNat, s⟩, by simpa using t0, by simpa using t1, by simpa using t2, ?_, by simpa using t4⟩
    show W.cell? (a.add 3) = some (.int .u32 ((n3.toNat : Nat) : Int))
    rw [Int.toNat_of_nonneg w3.1]
    simpa using t3

set_option maxRecDepth 100000 in
set_option linter.constructorNameAsVariable false in
theorem ops_open {H : Type} {enc : TypeId × Value → H} {W : World} {base : Nat} {v : Value} {d : DataW H} {ps : List MemPlace} (hok : Value.okWide Tryd.prog W .any base 34 v)
    (h : DataW.Trod enc Tryd.prog W 0 (fun _ => true) true 34 v d ps) : ∃ l, OpsV W v l := by
  obtain ⟨fuel, hf⟩ := h
  obtain ⟨a', n', c', rfl⟩ := okWide_slice Tryd.underlying34 hok
  rcases open_slice Tryd.underlying34 hf with ⟨hcs, _⟩ | ⟨a, len, cap, m, n, D, Pl, hcs, _, hl, hm, hmm, _, hx⟩
  · simp [Value.cells] at hcs
    obtain ⟨rfl, rfl, rfl⟩ := hcs
    exact ⟨[], .empty none 0⟩
  · simp [Value.cells] at hcs
    obtain ⟨rfl, rfl, rfl⟩ := hcs
    simp only [if_true] at hmm
    subst hmm
    by_cases h0 : n' = 0
    · subst h0
      exact ⟨[], .empty _ _⟩
    rw [opCells] at hx
    have each : ∀ i, i < n' → ∃ y : XOp, W.cell? ((a.add (i * 5)).add 0) = some (.int .i64 y.kind) ∧ W.cell? ((a.add (i * 5)).add 1) = some (.int .i64 y.pl) ∧ W.cell? ((a.add (i * 5)).add 2) = some (.int .i64 y.num) ∧ W.cell? ((a.add (i * 5)).add 3) = some (.int .u32 (y.v : Int)) ∧ W.cell? ((a.add (i * 5)).add 4) = some (.string y.s) := by
      intro i hi
      obtain ⟨cs', h1, h2⟩ := hx i (by omega)
      exact op_trod h1 h2
    have each2 : ∀ i, ∃ y : XOp, i < n' → W.cell? ((a.add (i * 5)).add 0) = some (.int .i64 y.kind) ∧ W.cell? ((a.add (i * 5)).add 1) = some (.int .i64 y.pl) ∧ W.cell? ((a.add (i * 5)).add 2) = some (.int .i64 y.num) ∧ W.cell? ((a.add (i * 5)).add 3) = some (.int .u32 (y.v : Int)) ∧ W.cell? ((a.add (i * 5)).add 4) = some (.string y.s) := by
      intro i
      by_cases hi : i < n'
      · obtain ⟨y, hy⟩ := each i hi
        exact ⟨y, fun _ => hy⟩
      · exact ⟨op0, fun h => absurd h hi⟩
    obtain ⟨q, hq⟩ := Classical.skolem.1 each2
    obtain ⟨b, off, spot⟩ := a
    have hsp : spot = none := by simpa [Addr.add] using World.cell?_spot (hq 0 (by omega)).1
    subst hsp
    have hadd : ∀ i j, ((⟨b, off, none⟩ : Addr).add (i * 5)).add j = ⟨b, off + i * 5 + j, none⟩ := fun i j => by rw [add_plain, add_plain]
    have hlen : ((List.range n').map q).length = n' := by simp
    have e := OpsV.some (W := W) b off m ((List.range n').map q) (by rw [hlen]; exact hl) (by unfold maxLen at hm; omega) (fun i hi => by
      rw [hlen] at hi
      have hg : ((List.range n').map q).getD i op0 = q i := by simp [List.getD, hi]
      obtain ⟨k0, k1, k2, k3, k4⟩ := hq i hi
      rw [hadd] at k0 k1 k2 k3 k4
      rw [hg]
      exact ⟨k0, k1, k2, k3, k4⟩)
    rw [hlen] at e
    exact ⟨_, e⟩

set_option maxRecDepth 100000 in
set_option linter.constructorNameAsVariable false in
theorem string_open {H : Type} {enc : TypeId × Value → H} {W : World} {base : Nat} {v : Value} {d : DataW H} {ps : List MemPlace} (hok : Value.okWide Tryd.prog W .any base 9 v)
    (h : DataW.Trod enc Tryd.prog W 0 (fun _ => true) true 9 v d ps) : ∃ s : ByteArray, v = .string s := by
  obtain ⟨s, rfl, _⟩ := Go.ChangeMaps.open_string Tryd.underlying9 hok h
  exact ⟨s, rfl⟩
end Go.Proofs.YtjoghbpekpgkpaaDoor

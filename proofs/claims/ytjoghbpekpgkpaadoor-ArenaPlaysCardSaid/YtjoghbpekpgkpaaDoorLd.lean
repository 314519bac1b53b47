/- What a row's list of variables gives, part by part. Of no one program. -/
import Derived.Test.YtjoghbpekpgkpaaDoorRf
import Derived.ProofKit
import Derived.LaidMore
import Derived.Stop.Joined
import Derived.Stop.LaidTwo
import Derived.OpenShut
namespace Go.Proofs.YtjoghbpekpgkpaaDoor
open Go Go.RowKit

theorem laidVars_sublist {P : Program} {w : World} {l l' : List (String × DataW Unit)} (hs : l'.Sublist l) : ∀ {ps : List MemPlace}, DataW.LaidVars P w l ps → ∃ ps', DataW.LaidVars P w l' ps' ∧ ps'.Sublist ps := by
  induction hs with
  | slnil => intro ps h; exact ⟨ps, h, List.Sublist.refl _⟩
  | cons a _ ih =>
    intro ps h
    obtain ⟨n, d⟩ := a
    obtain ⟨g, t, cs, fuel, p, q, h1, h2, h3, h4, h5, rfl⟩ := h
    obtain ⟨ps', h6, h7⟩ := ih h5
    exact ⟨ps', h6, h7.trans (List.sublist_append_right _ _)⟩
  | cons_cons a _ ih =>
    intro ps h
    obtain ⟨n, d⟩ := a
    obtain ⟨g, t, cs, fuel, p, q, h1, h2, h3, h4, h5, rfl⟩ := h
    obtain ⟨ps', h6, h7⟩ := ih h5
    exact ⟨_, ⟨g, t, cs, fuel, p, ps', h1, h2, h3, h4, h6, rfl⟩, List.Sublist.append (List.Sublist.refl _) h7⟩

theorem laidMet_sublist {P : Program} {w : World} {l l' : List (String × DataW Unit)} (h : laidMet P l w) (hs : l'.Sublist l) : laidMet P l' w := by
  obtain ⟨ps, hv, hnd, hrows⟩ := h
  obtain ⟨ps', hv', hsub⟩ := laidVars_sublist hs hv
  exact ⟨ps', hv', hsub.nodup hnd, fun b off hm => hrows b off (hsub.subset hm)⟩

/-- A package's sentinel, as the walks ask for it. -/
structure Sent (w : World) (g : Nat) (tp : TypeId) (a : Addr) : Prop where
  cell : w.cell? ⟨g, 0, none⟩ = some (.iface tp (.pointer (some a)))
  block : ∃ ca ta, w.heap[a.block]? = some (.cells ca ta (0, 0))

theorem Sent.below {w w' : World} {g : Nat} {tp : TypeId} {a : Addr} (h : Sent w g tp a) (hb : Below w.heap.size w w') (hg : g < w.heap.size) : Sent w' g tp a :=
  ⟨(hb.cell (p := ⟨g, 0, none⟩) hg).trans h.cell, let ⟨ca, ta, e⟩ := h.block; ⟨ca, ta, (hb.block _ (block_lt e)).trans e⟩⟩

section
variable {P : Program} {W : World} {ti tp te ts : TypeId} {ms : Array (String × TypeId)} {f : Field} {nm : String} {r : List (String × DataW Unit)}
theorem sent_one {n0 : String} {text0 : List UInt8} {g0 : Nat}
    (h : laidMet P ((n0, .iface nm (.ptr (.agg [.lit (.string text0)]))) :: r) W)
    (hg0 : P.globalNamed n0 = some g0) (ht0 : (P.globals[g0]?).map (·.type) = some ti)
    (hi : P.underlying ti = some (.interface ms)) (hrow : ∀ u, P.typeName? 3 u = some nm → u = tp)
    (hp : P.underlying tp = some (.pointer te)) (he : P.underlying te = some (.struct #[f])) (hft : f.type = ts) (hfo : f.offset = 0) (hs : P.underlying ts = some .string) (hc : P.cellsOf te = 1) (hcs : P.cellsOf ts = 1) :
    ∃ a, Sent W g0 tp a := by
  obtain ⟨ps, ⟨g0', t0', cs0, f0, p0, q0, hg0', ht0', hv0, hd0, _, e0⟩, hnd, hrows⟩ := h
  obtain rfl := Option.some.inj (hg0.symm.trans hg0')
  obtain rfl := Option.some.inj (ht0.symm.trans ht0')
  subst e0
  obtain ⟨l0⟩ := cs0
  have ok0 : ∀ u v, l0 = [.iface u v] → Value.okWide P W .any 0 u v := fun u v e => by
    subst e
    exact (hrows g0 0 (by simp [MemPlace.row])).2 u v (by simpa using World.var?_cell hg0' hv0 0)
  obtain ⟨a0, s0, rfl, hc0, hs0, hz0, rfl⟩ := errorString_of_trod hi hrow hp he hft hfo hs hc hcs hd0 ok0
  obtain ⟨c0, t0, hb0⟩ := (hrows a0.block a0.off (by simp [MemPlace.row])).1
  exact ⟨a0, by simpa using World.var?_cell hg0' hv0 0, c0, t0, hb0⟩
theorem sent_ne {n0 n1 : String} {text0 text1 : List UInt8} {g0 g1 : Nat} {a0 a1 : Addr}
    (h : laidMet P ((n0, .iface nm (.ptr (.agg [.lit (.string text0)]))) :: (n1, .iface nm (.ptr (.agg [.lit (.string text1)]))) :: r) W)
    (hg0 : P.globalNamed n0 = some g0) (ht0 : (P.globals[g0]?).map (·.type) = some ti) (hg1 : P.globalNamed n1 = some g1) (ht1 : (P.globals[g1]?).map (·.type) = some ti)
    (hi : P.underlying ti = some (.interface ms)) (hrow : ∀ u, P.typeName? 3 u = some nm → u = tp)
    (hp : P.underlying tp = some (.pointer te)) (he : P.underlying te = some (.struct #[f])) (hft : f.type = ts) (hfo : f.offset = 0) (hs : P.underlying ts = some .string) (hc : P.cellsOf te = 1) (hcs : P.cellsOf ts = 1)
    (s0 : Sent W g0 tp a0) (s1 : Sent W g1 tp a1) : a0 ≠ a1 := by
  obtain ⟨b0, b1, _, _, _, _, _, _, hv0, hv1, _, _, _, _, _, _, hne, _, _⟩ := laid_sentinels2 h hg0 ht0 hg1 ht1 hi hrow hp he hft hfo hs hc hcs
  have e0 := World.var?_cell hg0 hv0 0
  have e1 := World.var?_cell hg1 hv1 0
  rw [s0.cell] at e0
  rw [s1.cell] at e1
  simp at e0 e1
  rw [e0, e1]
  exact hne
end

theorem below_frozen {W W' : World} (hb : Below W.heap.size W W') {a : Addr} (ha : a.block < W.heap.size) : W'.frozen? a = W.frozen? a := hb.frozen ha

/-- The cells of a table, out of its reading. -/
theorem laid_cells {P : Program} {W : World} {n : String} {d : DataW Unit} {r : List (String × DataW Unit)} {g : Nat} {t : TypeId}
    (h : laidMet P ((n, d) :: r) W) (hg : P.globalNamed n = some g) (ht : (P.globals[g]?).map (·.type) = some t) :
    ∃ (cs : List Value) (fuel : Nat) (p : List MemPlace), DataW.trod (fun _ => ()) P W 0 (fun _ => true) false fuel t cs = some (d, p) ∧ ∀ i, W.cell? ⟨g, i, none⟩ = cs[i]? := by
  obtain ⟨ps, ⟨g0', t0', cs0, f0, p0, q0, hg0', ht0', hv0, hd0, _, e0⟩, hnd, hrows⟩ := h
  obtain rfl := Option.some.inj (hg.symm.trans hg0')
  obtain rfl := Option.some.inj (ht.symm.trans ht0')
  exact ⟨cs0.toList, f0, p0, hd0, fun i => by rw [World.var?_cell hg0' hv0 i]; simp⟩
end Go.Proofs.YtjoghbpekpgkpaaDoor
